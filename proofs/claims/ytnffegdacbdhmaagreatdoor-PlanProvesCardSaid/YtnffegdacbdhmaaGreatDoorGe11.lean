/- Cd -/
import Derived.Test.YtnffegdacbdhmaaGreatDoorProg
import Derived.Test.YtnffegdacbdhmaaGreatDoorGe10
set_option linter.all false
set_option maxRecDepth 100000
set_option maxHeartbeats 0
namespace Go.Gv
section
open Go.Proofs
abbrev oA(d s:Nat):CI:= .op (some d) none (.mv (.tmp s))
abbrev oB(d:Nat)(c:COp):CI:= .op (some d) none c
abbrev oC(d w s:Nat):CI:= .op (some d) none (.load false w (.tmp s))
abbrev oD(d w s:Nat):CI:= .op (some d) none (.load true w (.tmp s))
abbrev oE(d n s:Nat):CI:= .op (some d) none (.faddr n (.tmp s))
abbrev oF(w a b:Nat):CI:= .op none none (.store none w (.tmp a) (.tmp b))
abbrev oG(d s:Nat):CI:= .op (some d) none (.nilck (.tmp s))
abbrev oH(d g:Nat)(c:COp):CI:= .op (some d) (some (g,true)) c
abbrev oI(d g:Nat)(c:COp):CI:= .op (some d) (some (g,false)) c
abbrev oT(n:Nat):Operand:= .tmp n
abbrev oK(v:Value):Operand:= .const v
abbrev oN(n:Int):Operand:= .const (.int .i64 n)
abbrev oS(b:ByteArray):Operand:= .const (.string b)
abbrev oi:Value:= .int .i64 0
abbrev oe:Value:= .string ⟨#[]⟩
abbrev ob:Value:= .bool false
abbrev on:Value:= .slice none 0 0
abbrev oZ(d f:Nat)(l:List Operand):CI:= .op (some d) none (.call f l)
abbrev oX(l:List CI)(a b:List Nat)(x:CC):CC:= .seq (.reg l) (.keep a b x)
abbrev xj:Nat:=5
abbrev Wf:Nat:=6
abbrev uQ:Nat:=7
abbrev xg:Nat:=8
abbrev Ea:Nat:=9
abbrev bU:Nat:=10
abbrev tK:Nat:=11
abbrev He:Nat:=12
abbrev zA:Nat:=13
abbrev xi:Nat:=14
abbrev uO:Nat:=16
abbrev qY:Nat:=17
abbrev BT:Nat:=18
abbrev iF:Nat:=19
abbrev sT:Nat:=20
abbrev Em:Nat:=21
abbrev fG:Nat:=22
abbrev uP:Nat:=23
abbrev dT:Nat:=24
abbrev BP:Nat:=25
abbrev iT:Nat:=26
abbrev yx:Nat:=27
abbrev eB:Nat:=28
abbrev uM:Nat:=29
abbrev qW:Nat:=30
abbrev js:Nat:=31
abbrev gj:Nat:=32
abbrev jR:Nat:=33
abbrev vx:Nat:=34
abbrev sR:Nat:=35
abbrev pE:Nat:=36
abbrev El:Nat:=37
abbrev Hb:Nat:=38
abbrev BW:Nat:=39
abbrev xh:Nat:=40
abbrev P3:Nat:=41
abbrev We:Nat:=42
abbrev BX:Nat:=43
abbrev uf:Nat:=44
abbrev qT:Nat:=45
abbrev xe:Nat:=46
abbrev xf:Nat:=47
abbrev Eg:Nat:=48
abbrev lL:Nat:=49
abbrev wZ:Nat:=50
abbrev wX:Nat:=51
abbrev zz:Nat:=52
abbrev ue:Nat:=53
abbrev qN:Nat:=54
abbrev uc:Nat:=55
abbrev nL:Nat:=56
abbrev wU:Nat:=57
abbrev vK:Nat:=58
abbrev ud:Nat:=59
abbrev vL:Nat:=60
abbrev eX:Nat:=61
abbrev ct:Nat:=62
abbrev dK:Nat:=63
abbrev dz:Nat:=64
abbrev aY:Nat:=65
abbrev qV:Nat:=66
abbrev nO:Nat:=67
abbrev eA:Nat:=68
abbrev mE:Nat:=69
abbrev xc:Nat:=70
abbrev gY:Nat:=71
abbrev gZ:Nat:=72
abbrev kT:Nat:=73
abbrev dO:Nat:=74
abbrev fp:Nat:=75
abbrev xk:Nat:=76
abbrev oO:Nat:=77
abbrev qK:Nat:=79
abbrev jr:Nat:=80
abbrev Hd:Nat:=81
abbrev sP:Nat:=82
abbrev ez:Nat:=83
abbrev qO:Nat:=85
abbrev zw:Nat:=86
abbrev qP:Nat:=88
abbrev jN:Nat:=89
abbrev dx:Nat:=91
abbrev qZ:Nat:=92
abbrev xb:Nat:=93
abbrev dM:Nat:=94
abbrev dN:Nat:=95
abbrev pD:Nat:=96
abbrev nZ:Nat:=97
abbrev gJ:Nat:=98
abbrev wY:Nat:=99
abbrev lO:Nat:=100
abbrev Ec:Nat:=101
abbrev cD:Nat:=102
abbrev BO:Nat:=103
abbrev iU:Nat:=104
abbrev jp:Nat:=105
abbrev nP:Nat:=106
abbrev fN:Nat:=107
abbrev dH:Nat:=108
abbrev dL:Nat:=109
abbrev bO:Nat:=110
abbrev dh:Nat:=111
abbrev gK:Nat:=112
abbrev bi:Nat:=113
abbrev tJ:Nat:=114
abbrev cR:Nat:=115
abbrev iH:Nat:=116
abbrev cJ:Nat:=117
abbrev rc:Nat:=118
abbrev cN:Nat:=119
abbrev qU:Nat:=120
abbrev jP:Nat:=121
abbrev nN:Nat:=122
abbrev eN:Nat:=123
abbrev gM:Nat:=124
abbrev vN:Nat:=125
abbrev aM:Nat:=126
abbrev gX:Nat:=127
abbrev fV:Nat:=128
abbrev fl:Nat:=129
abbrev mF:Nat:=130
abbrev cW:Nat:=131
abbrev kA:Nat:=132
abbrev bJ:Nat:=133
abbrev aN:Nat:=134
abbrev zC:Nat:=135
abbrev re:Nat:=136
abbrev kU:Nat:=137
abbrev zB:Nat:=138
abbrev bX:Nat:=139
abbrev cY:Nat:=140
abbrev oR:Nat:=141
abbrev bI:Nat:=142
abbrev cT:Nat:=143
abbrev oa:Nat:=144
abbrev uN:Nat:=147
abbrev wV:Nat:=148
abbrev zu:Nat:=149
abbrev Eb:Nat:=150
abbrev sM:Nat:=151
abbrev sU:Nat:=154
abbrev kS:Nat:=155
abbrev jq:Nat:=156
abbrev mD:Nat:=157
abbrev oP:Nat:=158
abbrev lI:Nat:=160
abbrev Hg:Nat:=161
abbrev zy:Nat:=162
abbrev sQ:Nat:=163
abbrev BQ:Nat:=164
abbrev Ed:Nat:=165
abbrev zx:Nat:=166
abbrev Eh:Nat:=167
abbrev Ee:Nat:=168
abbrev wW:Nat:=169
abbrev lM:Nat:=170
abbrev xa:Nat:=171
abbrev jO:Nat:=172
abbrev mC:Nat:=173
abbrev aV:Nat:=174
abbrev jQ:Nat:=175
abbrev cE:Nat:=176
abbrev fD:Nat:=177
abbrev lN:Nat:=178
abbrev ra:Nat:=179
abbrev rb:Nat:=180
abbrev tL:Nat:=181
abbrev wS:Nat:=182
abbrev cQ:Nat:=183
abbrev dJ:Nat:=184
abbrev gu:Nat:=185
abbrev fC:Nat:=186
abbrev fF:Nat:=187
abbrev hU:Nat:=188
abbrev eC:Nat:=189
abbrev iG:Nat:=190
abbrev tI:Nat:=192
abbrev qM:Nat:=193
abbrev zt:Nat:=194
abbrev uR:Nat:=195
abbrev oQ:Nat:=196
abbrev fB:Nat:=197
abbrev ci:Nat:=198
abbrev bQ:Nat:=199
abbrev cw:Nat:=200
abbrev jn:Nat:=201
abbrev fj:Nat:=202
abbrev qX:Nat:=212
abbrev sO:Nat:=213
abbrev ni:Nat:=214
abbrev sV:Nat:=216
abbrev cv:Nat:=217
abbrev BV:Nat:=218
abbrev yw:Nat:=219
abbrev sS:Nat:=220
abbrev Ef:Nat:=229
abbrev yv:Nat:=230
abbrev vM:Nat:=231
abbrev Hh:Nat:=232
abbrev BS:Nat:=233
abbrev BR:Nat:=234
abbrev gL:Nat:=235
abbrev BU:Nat:=236
abbrev lH:Nat:=237
abbrev rf:Nat:=239
abbrev eW:Nat:=240
abbrev gi:Nat:=241
abbrev nM:Nat:=242
abbrev gI:Nat:=243
abbrev Eo:Nat:=252
abbrev lJ:Nat:=253
abbrev mB:Nat:=255
abbrev tH:Nat:=256
abbrev dv:Nat:=257
abbrev dS:Nat:=258
abbrev dU:Nat:=259
abbrev nf:Nat:=260
abbrev qR:Nat:=266
abbrev qQ:Nat:=268
abbrev qS:Nat:=272
abbrev Ei:Nat:=277
abbrev iE:Nat:=278
abbrev kD:Nat:=285
abbrev bG:Nat:=286
abbrev tG:Nat:=287
abbrev jo:Nat:=288
abbrev kR:Nat:=289
abbrev En:Nat:=290
abbrev nj:Nat:=291
abbrev sL:Nat:=292
abbrev sW:Nat:=293
abbrev Ej:Nat:=298
abbrev kB:Nat:=305
abbrev dE:Nat:=306
abbrev qL:Nat:=307
abbrev dy:Nat:=308
abbrev fq:Nat:=309
abbrev Ek:Nat:=311
abbrev nh:Nat:=314
abbrev sK:Nat:=317
abbrev dZ:Nat:=318
abbrev kE:Nat:=319
abbrev D9:Nat:=322
abbrev lK:Nat:=323
abbrev jm:Nat:=324
abbrev eM:Nat:=325
abbrev ir:Nat:=327
abbrev fm:Nat:=328
abbrev kC:Nat:=329
abbrev wT:Nat:=330
abbrev ng:Nat:=333
abbrev fh:Nat:=335
abbrev dw:Nat:=336
abbrev oU:Nat:=337
abbrev eV:Nat:=340
abbrev sX:Nat:=341
abbrev dg:Nat:=342
abbrev bj:Nat:=3
abbrev tQ:Nat:=5
abbrev aw:Nat:=9
abbrev Oa:Nat:=21
abbrev yk:Nat:=28
abbrev qfw:Nat:=30
abbrev ff:Nat:=36
abbrev aC:Nat:=39
abbrev aK:Nat:=50
abbrev ET:Nat:=61
abbrev An:Nat:=69
abbrev Si:Nat:=80
abbrev H7:Nat:=100
abbrev pv:Nat:=110
abbrev yj:Nat:=118
abbrev kg:Nat:=158
abbrev Ge:Nat:=191
abbrev fw:Nat:=233
abbrev Do:Nat:=236
abbrev gm:Nat:=258
abbrev Am:Nat:=339
abbrev dt:Nat:=344
def mixed:Tryz.prog.follows .mixedOrders=true:=by kernel_rfl
abbrev gq(f:Func)(im:List Nat)(op:G.Opt)(c:CC)(_:G.ap (G.gn Tryz.prog f im op)=c:=by conv=>lhs;(conv=>arg 1;reduce);dsimp only[G.ap]):CC:=c
def fo {f : Nat} {im : List Nat} {cc : CC} {rs : List aj} {N : Nat} (h : ((Tryz.prog.funcs[f]?).bind fun g => if g.name == "runtime.NumGoroutine" then none else g.body.bind fun c => (aI Tryz.prog im g.ntmps c).bind fun cc => (g.results.toList.mapM (hZ Tryz.prog)).bind fun rs => some (g.ntmps, cc, rs)) = some (N, bP cc, rs) := by kernel_rfl) : zY Tryz.prog f im cc rs N := qvn mixed h
abbrev FO:=zY Tryz.prog
abbrev TQ(dq:Prop)(f:Nat)(s:Spc):Prop:=Tri dq Tryz.prog f s.pt
def Qt:CC:=gq Tryz.f27 [] {} _
def OS:List aj:=[.tmp 4]
def qjj:FO yx [] Qt OS 16:=fo
def rC:CC:=gq Tryz.f170 [] {} _
def qg:List aj:=[.tmp 2]
def IN:FO lM [] rC qg 21:=fo
def uh:CC:=gq Tryz.f171 [] {} _
def tU:List aj:=[.tmp 2]
def LZ:FO xa [] uh tU 17:=fo
def iK:CC:=gq Tryz.f102 [] {} _
def ix:List aj:=[.tmp 2]
def AA:FO cD [] iK ix 29:=fo
def rB:CC:=gq Tryz.f278 [] {} _
def qf:List aj:=[.tmp 2]
def IM:FO iE [] rB qf 25:=fo
def Ci:CC:=gq Tryz.f311 [] { cu:=[2,7,9] } _
def Bg:List aj:=[.tmp 2]
def Vz:FO Ek [] Ci Bg 81:=fo
def Ch:CC:=gq Tryz.f298 [] {} _
def Bf:List aj:=[.tmp 2]
def Vy:FO Ej [] Ch Bf 16:=fo
def Cg:CC:=gq Tryz.f277 [] {} _
def Be:List aj:=[.tmp 2, .tmp 3]
def Vx:FO Ei [] Cg Be 69:=fo
def EE:CC:=gq Tryz.f161 [] {} _
def DB:List aj:=[.tmp 2]
def Y5:FO Hg [] EE DB 4:=fo
def xF:CC:=gq Tryz.f162 [] {} _
def wy:List aj:=[.tmp 4]
def Pg:FO zy [] xF wy 13:=fo
def kK:CC:=gq Tryz.f98 [2,3] {} _
def ku:List aj:=[.tmp 4]
def CY:FO gJ [2,3] kK ku 122:=fo
def pd:CC:=gq Tryz.f45 [] { cu:=[6] } _
def oq:List aj:=[.tmp 2]
def GD:FO qT [] pd oq 47:=fo
def Cb:CC:=gq Tryz.f229 [2] {} _
def Bb:List aj:=[.tmp 4]
def Vu:FO Ef [2] Cb Bb 17:=fo
def B9:CC:=gq Tryz.f230 [] {} _
def A9:List aj:=[.tmp 2]
def Vs:FO yv [] B9 A9 42:=fo
def zH:CC:=gq Tryz.f231 [3] {} _
def yR:List aj:=[.tmp 6]
def RD:FO vM [3] zH yR 32:=fo
def EF:CC:=gq Tryz.f232 [] {} _
def DD:List aj:=[.tmp 4]
def Y6:FO Hh [] EF DD 24:=fo
def zK:CC:=gq Tryz.f233 [2] {} _
def yU:List aj:=[.tmp 4]
def RH:FO BS [2] zK yU 27:=fo
def zJ:CC:=gq Tryz.f234 [] {} _
def yT:List aj:=[.tmp 4]
def RG:FO BR [] zJ yT 27:=fo
def rA:CC:=gq Tryz.f163 [] {} _
def qe:List aj:=[.tmp 2, .tmp 3]
def IL:FO sQ [] rA qe 42:=fo
def zI:CC:=gq Tryz.f164 [1] {} _
def yS:List aj:=[.tmp 2, .tmp 3]
def RE:FO BQ [1] zI yS 48:=fo
def B8:CC:=gq Tryz.f165 [1] {} _
def A8:List aj:=[.tmp 2, .tmp 3]
def Vr:FO Ed [1] B8 A8 96:=fo
def xE:CC:=gq Tryz.f166 [1] {} _
def wx:List aj:=[.tmp 2, .tmp 3]
def Pf:FO zx [1] xE wx 143:=fo
def Cf:CC:=gq Tryz.f167 [3] { cu:=[14,17,20,26] } _
def Bd:List aj:=[.tmp 4, .tmp 5]
def Vw:FO Eh [3] Cf Bd 128:=fo
def Ca:CC:=gq Tryz.f168 [1] { cu:=[2,5,11,14] } _
def Ba:List aj:=[.tmp 2, .tmp 3]
def Vt:FO Ee [1] Ca Ba 86:=fo
def uX:CC:=gq Tryz.f99 [1] {} _
def uw:List aj:=[.tmp 2, .tmp 3, .tmp 4]
def MO:FO wY [1] uX uw 74:=fo
def Ce:CC:=gq Tryz.f48 [1] {} _
def Bc:List aj:=[.tmp 2]
def Vv:FO Eg [1] Ce Bc 14:=fo
def kJ:CC:=gq Tryz.f49 [] {} _
def kq:List aj:=[.tmp 4]
def CX:FO lL [] kJ kq 26:=fo
def uY:CC:=gq Tryz.f50 [2] {} _
def ux:List aj:=[.tmp 4]
def MP:FO wZ [2] uY ux 21:=fo
def uW:CC:=gq Tryz.f51 [1] {} _
def uv:List aj:=[.tmp 2, .tmp 3]
def MN:FO wX [1] uW uv 32:=fo
def zL:CC:=gq Tryz.f18 [2,3,2101010,1100097,2108010,1107104,2145010,1144141,2182010,1181178] { cu:=[7,13,19,26,33,48] } _
def yV:List aj:=[.cell 4 true 7, .tmp 5]
def RI:FO BT [2,3,2101010,1100097,2108010,1107104,2145010,1144141,2182010,1181178] zL yV 273:=fo
def AK:CC:=gq Tryz.f44 [] {} _
def Au:List aj:=[.tmp 2]
def SQ:FO uf [] AK Au 8:=fo
def Lj:CC:=gq Tryz.f41 [] {} _
def Kr:List aj:=[.tmp 2]
def qf0:FO P3 [] Lj Kr 7:=fo
def Qr:CC:=gq Tryz.f42 [] {} _
def OQ:List aj:=[.tmp 2]
def qjh:FO We [] Qr OQ 7:=fo
def zS:CC:=gq Tryz.f43 [] {} _
def zg:List aj:=[.tmp 2]
def RR:FO BX [] zS zg 7:=fo
def vn:CC:=gq Tryz.f40 [] {} _
def uH:List aj:=[.tmp 0]
def MZ:FO xh [] vn uH 5:=fo
def xO:CC:=gq Tryz.f10 [] {} _
def DE:List aj:=[.tmp 4]
def Pq:FO bU [] xO DE 35:=fo
def Qs:CC:=gq Tryz.f6 [999] {} _
def OR:List aj:=[.tmp 2]
def qji:FO Wf [999] Qs OR 11:=fo
def pi:CC:=gq Tryz.f17 [100026,2067008] { cu:=[3,5,12,19,22,28] } _
def ow:List aj:=[.cell 6 true 7]
def GM:FO qY [100026,2067008] pi ow 177:=fo
def vi:CC:=gq Tryz.f46 [1061061,1096061,2063001,2098001] { bx:=[1],cu:=[12] } _
def uD:List aj:=[]
def MV:FO xe [1061061,1096061,2063001,2098001] vi uD 100:=fo
def vk:CC:=gq Tryz.f47 [1038027,1034027,1031027,2076042,2075040] { bx:=[1],cu:=[10,14] } _
def uF:List aj:=[]
def MX:FO xf [1038027,1034027,1031027,2076042,2075040] vk uF 102:=fo
def tm:CC:=gq Tryz.f7 [] {} _
def sD:List aj:=[.cell 4 true 7]
def KN:FO uQ [] tm sD 36:=fo
def zT:CC:=gq Tryz.f130 [] {} _
def zh:List aj:=[.tmp 2]
def pp:CC:=gq Tryz.f131 [] {} _
def oL:List aj:=[.tmp 4]
def tn:CC:=gq Tryz.f144 [] {} _
def sE:List aj:=[.tmp 2]
def iO:CC:=gq Tryz.f33 [2] {} _
def iB:List aj:=[.tmp 4]
open Cod (enc dec)
variable {S:Nat->Spc}
abbrev uq:Spc:=aG (a1 Int) (λ_=>True) enc λ_ y=>y=false
def Mz:ak tn sE S (a1 Int) (λ_=>True) enc λ_ y=>y=false:=by
 rintro x -;simp[tn,sE]
def ug(a b:Int):Int:=if a<b then -1 else if b<a then 1 else 0
abbrev gA:Spc:=aG (a2 Int Int) (λ_=>True) enc λx y=>y=ug x.1 x.2
def HM(h1:S oa=uq):ak pp oL S (a2 Int Int) (λ_=>True) enc λx y=>y=ug x.1 x.2:=by
 rintro⟨a,b⟩ -;simp[pp,oL,h1,ug];refine⟨λh1 h2=>by omega,λh1=>⟨λh2=>?_,λh2=>?_⟩⟩
 ·rw[if_neg (by omega),if_pos h2]
 ·rw[if_neg (by omega),if_neg (by omega)]
abbrev vD:Spc:=aG (a1 (List Int)) (λ_=>True) enc λx y=>y=(x.find? (· ≠0)).getD 0
def Uu:ak zT zh S (a1 (List Int)) (λ_=>True) enc λx y=>y=(x.find? (· ≠0)).getD 0:=by
 rintro l -;simp[zT,zh];intro _;refine ah (X:=Unit) [3,6] [] l.length (λk _=>(l.find? λx=>!decide (x=0))=(l.drop k).find? λx=>!decide (x=0)) (λ_=>[]) (λ_=>[]) () (by simp) ?_ ?_
 ·intro k _ hk a;simp;refine⟨hk,λx b=>?_⟩;rw[bw b]at a;refine⟨λh=>?_,λh=>?_⟩
  ·rw[a];simp[h]
  ·rw[a];simp[h]
 ·intro _ a;rw[qGw]at a;simp[a]
def KV(x n:Int):Int:=if n< 1 then 0 else if x.tmod n< 0 then x.tmod n+n else x.tmod n
abbrev s_m_Mod:Spc:=aG (a2 Int Int) (λx=>x.2<=1000000000) enc λx y=>y=KV x.1 x.2
def qmO:ak Qt OS S (a2 Int Int) (λx=>x.2<=1000000000) enc λx y=>y=KV x.1 x.2:=by
 rintro⟨a,b⟩ hl;simp at hl;simp[Qt,OS,KV];refine⟨λh1 h2=>by omega,λh1=>⟨by omega,λh2=>⟨?_,?_⟩,λh2=>?_⟩⟩
 ·have:=Int.lt_tmod_of_pos a (b:=b) (by omega);simp[InR];omega
 ·rw[if_neg (by omega),if_pos h2]
 ·rw[if_neg (by omega),if_neg (by omega)]
end
section
open Cod (enc dec)
variable {dq:Prop}
def qrn(s t:Spc):Spc:= .gen (λd ds H K=>s.pt d ds H K\/t.pt d ds H K) λd ds H K a hk h=>h.elim (λh=> .inl (s.mono d ds H K a hk h)) (λh=> .inr (t.mono d ds H K a hk h))
@[simp] theorem qAO(s t:Spc)(d:Nat)(ds:List D)(H:ab)(K:D->ab->Prop):(qrn s t).pt d ds H K=(s.pt d ds H K\/t.pt d ds H K):=i' rfl
def Ob{P:Program}{f:Nat}{s t:Spc}(h1:Tri dq P f s.pt)(h2:Tri dq P f t.pt):Tri dq P f (qrn s t).pt:=λO tp w vs ds H d K a b c e g h=>h.elim (λh=>h1 O tp w vs ds H d K a b c e g h) (λh=>h2 O tp w vs ds H d K a b c e g h)
section
variable {X Y:Type}[Cod Y]
def qB6(A:dP X)(pre:X->Prop)(post:X->List Y->Prop)(el n:Nat):PT:=λd ds H K=>eL (A.dec ds) λx=>pre x/\∀v l,post x l->K (.own d v) (ai H d (some (.row v el n (l.map enc))))
def qBL(A:dP X)(pre:X->List Y->Prop)(post:X->List Y->List Y->Prop)(el n:Nat):PT:=λd ds H K=>∃id v l a x,ds= .own id v::a/\A.dec a=some x/\H id=some (.row v el n (l.map enc))/\pre x l/\
 ∀v' l',post x l l'->K (.own id v') (ai H id (some (.row v' el n (l'.map enc))))
def qBG(A:dP X)(pre:X->List Y->Prop)(post:X->List Y->List Y->Prop)(el n:Nat):PT:=λd ds H K=>∃id v l a x,ds= .own id v::a/\A.dec a=some x/\H id=some (.row v el n (l.map enc))/\pre x l/\
 ∀l',post x l l'->K (.tup []) (ai H id (some (.row v el n (l'.map enc))))
def qfX{o:Option X}{k a:X->Prop}(h:∀x,k x->a x)(ho:eL o k):eL o a:=by
 cases o<;>simp_all
def qoq(A:dP X)(pre:X->Prop)(post:X->List Y->Prop)(el n:Nat):nC (qB6 A pre post el n):=λd ds H K a hk h=>qfX (λx h=>⟨h.1,λv l hp=>hk _ _ (h.2 v l hp)⟩) h
def qn9(A:dP X)(pre:X->List Y->Prop)(post:X->List Y->List Y->Prop)(el n:Nat):nC (qBL A pre post el n):=λd ds H K b hk ⟨id,v,l,a,x,h1,h2,h3,h4,h5⟩=>⟨id,v,l,a,x,h1,h2,h3,h4,λv' l' hp=>hk _ _ (h5 v' l' hp)⟩
def qn5(A:dP X)(pre:X->List Y->Prop)(post:X->List Y->List Y->Prop)(el n:Nat):nC (qBG A pre post el n):=λd ds H K b hk ⟨id,v,l,a,x,h1,h2,h3,h4,h5⟩=>⟨id,v,l,a,x,h1,h2,h3,h4,λl' hp=>hk _ _ (h5 l' hp)⟩
def qrR(A:dP X)(pre:X->Prop)(post:X->List Y->Prop)(el n:Nat):Spc:= .gen _ (qoq A pre post el n)
def qu9(A:dP X)(pre:X->List Y->Prop)(post:X->List Y->List Y->Prop)(el n:Nat):Spc:= .gen _ (qn9 A pre post el n)
def qrL(A:dP X)(pre:X->List Y->Prop)(post:X->List Y->List Y->Prop)(el n:Nat):Spc:= .gen _ (qn5 A pre post el n)
@[simp] theorem qks(A:dP X)(pre:X->Prop)(post:X->List Y->Prop)(el n:Nat)(d:Nat)(ds:List D)(H:ab)(K:D->ab->Prop):(qrR A pre post el n).pt d ds H K=eL (A.dec ds) λx=>pre x/\∀v l,post x l->K (.own d v) (ai H d (some (.row v el n (l.map enc)))):=i' rfl
def qyn(A:dP X)(pre:X->List Y->Prop)(post:X->List Y->List Y->Prop)(el n id:Nat)(v:Value)(ds:List D)(r:Option Res)(H:ab)(K:D->ab->Prop):Prop:=∃l,r=some (.row v el n (l.map enc))/\eL (A.dec ds) λx=>pre x l/\∀v' l',post x l l'->K (.own id v') (ai H id (some (.row v' el n (l'.map enc))))
def qyl(A:dP X)(pre:X->List Y->Prop)(post:X->List Y->List Y->Prop)(el n id:Nat)(v:Value)(ds:List D)(r:Option Res)(H:ab)(K:D->ab->Prop):Prop:=∃l,r=some (.row v el n (l.map enc))/\eL (A.dec ds) λx=>pre x l/\∀l',post x l l'->K (.tup []) (ai H id (some (.row v el n (l'.map enc))))
@[congr] theorem qBK{A:dP X}{pre:X->List Y->Prop}{post:X->List Y->List Y->Prop}{el n id:Nat}{v:Value}{ds a:List D}{r r':Option Res}{H:ab}{K:D->ab->Prop}(h1:ds=a)(h2:r=r'):qyn A pre post el n id v ds r H K=qyn A pre post el n id v a r' H K:=by grind
@[congr] theorem qBF{A:dP X}{pre:X->List Y->Prop}{post:X->List Y->List Y->Prop}{el n id:Nat}{v:Value}{ds a:List D}{r r':Option Res}{H:ab}{K:D->ab->Prop}(h1:ds=a)(h2:r=r'):qyl A pre post el n id v ds r H K=qyl A pre post el n id v a r' H K:=by grind
@[simp] theorem qBM(A:dP X)(pre:X->List Y->Prop)(post:X->List Y->List Y->Prop)(el n:Nat)(d i:Nat)(v:Value)(ds:List D)(H:ab)(K:D->ab->Prop):(qu9 A pre post el n).pt d (.own i v::ds) H K=qyn A pre post el n i v ds (H i) H K:=by
 refine propext ⟨λh=>?_,λh=>?_⟩
 ·obtain⟨id,v,l,b,x,h1,h2,h3,h4,h5⟩:=h;cases h1;refine⟨l,h3,?_⟩;rw[h2];exact⟨h4,h5⟩
 ·obtain⟨l,h1,h2⟩:=h;cases a:A.dec ds with
  |none=>rw[a]at h2;exact h2.elim
  |some x=>rw[a]at h2;exact⟨i,v,l,ds,x,rfl,a,h1,h2.1,h2.2⟩
@[simp] theorem qBH(A:dP X)(pre:X->List Y->Prop)(post:X->List Y->List Y->Prop)(el n:Nat)(d i:Nat)(v:Value)(ds:List D)(H:ab)(K:D->ab->Prop):(qrL A pre post el n).pt d (.own i v::ds) H K=qyl A pre post el n i v ds (H i) H K:=by
 refine propext ⟨λh=>?_,λh=>?_⟩
 ·obtain⟨id,v,l,b,x,h1,h2,h3,h4,h5⟩:=h;cases h1;refine⟨l,h3,?_⟩;rw[h2];exact⟨h4,h5⟩
 ·obtain⟨l,h1,h2⟩:=h;cases a:A.dec ds with
  |none=>rw[a]at h2;exact h2.elim
  |some x=>rw[a]at h2;exact⟨i,v,l,ds,x,rfl,a,h1,h2.1,h2.2⟩
@[simp] theorem qEn(A:dP X)(pre:X->List Y->Prop)(post:X->List Y->List Y->Prop)(el n id:Nat)(v:Value)(ds:List D)(l:List Y)(H:ab)(K:D->ab->Prop):qyn A pre post el n id v ds (some (.row v el n (l.map enc))) H K=eL (A.dec ds) λx=>pre x l/\∀v' l',post x l l'->K (.own id v') (ai H id (some (.row v' el n (l'.map enc)))):=by
 refine propext ⟨λ⟨l',h1,h2⟩=>?_,λh=>⟨l,rfl,h⟩⟩;simp at h1;subst h1;exact h2
@[simp] theorem qEm(A:dP X)(pre:X->List Y->Prop)(post:X->List Y->List Y->Prop)(el n id:Nat)(v:Value)(ds:List D)(l:List Y)(H:ab)(K:D->ab->Prop):qyl A pre post el n id v ds (some (.row v el n (l.map enc))) H K=eL (A.dec ds) λx=>pre x l/\∀l',post x l l'->K (.tup []) (ai H id (some (.row v el n (l'.map enc)))):=by
 refine propext ⟨λ⟨l',h1,h2⟩=>?_,λh=>⟨l,rfl,h⟩⟩;simp at h1;subst h1;exact h2
def qpf(el n:Nat)(q:List Y->Prop)(r:D)(H':ab):Prop:=∃j v l,r= .own j v/\H' j=some (.row v el n (l.map enc))/\q l
def dI{el n:Nat}{q:List Y->Prop}{j:Nat}{v:Value}{H':ab}(l:List Y)(h:H' j=some (.row v el n (l.map enc)))(a:q l):qpf el n q (.own j v) H':=⟨j,v,l,rfl,h,a⟩
def TN(cc:CC)(rs:List aj)(S:Nat->Spc)(A:dP X)(pre:X->Prop)(post:X->List Y->Prop)(el n:Nat):Prop:=
 ∀x,pre x->vc S cc (vE rs λr H'=>qpf el n (post x) r H') (dR (A.view x)) bS
def WI(cc:CC)(rs:List aj)(S:Nat->Spc)(A:dP X)(pre:X->List Y->Prop)(post:X->List Y->List Y->Prop)(el n:Nat):Prop:=
 ∀v l x,pre x l->vc S cc (vE rs λr H'=>qpf el n (post x l) r H') (dR (.own 0 v::A.view x)) (ai bS 0 (some (.row v el n (l.map enc))))
variable {P:Program}{S:Nat->Spc}{f:Nat}{im:List Nat}{cc:CC}{rs:List aj}{N:Nat}{A:dP X}{el n:Nat}
theorem Ao{pre:X->Prop}{post:X->List Y->Prop}(p:∀f,Tri dq P f (S f).pt)(h:zY P f im cc rs N)(y:∀x,(A.view x).length<=N)(t:TN cc rs S A pre post el n):Tri dq P f (qrR A pre post el n).pt:=by
 obtain⟨zq,enter,fn,code,h1,h2,h3,h4,h5⟩:=h;refine pw p zq h1 h2 enter h3 h4 h5 ?_;intro ds H d K b;rw[qks]at b;cases c:A.dec ds with
 |none=>simp_all
 | some x=>
   rw[c]at b;obtain⟨hp,u⟩:=b;have hl:=A.le ds x c;refine⟨by rw[hl.1];grind,A.view x,bS,id,hl,λi r h=>by simp at h,λi j r s h=>by simp,_,t x hp,?_⟩;rintro r H' ⟨j,v,l,rfl,C,a⟩;refine⟨.own d v,bS,ai H d (some (.row v el n (l.map enc))),λi=>if i=d then some j else none, .own _ _ _,λj q h=>by simp at h,u v l a,λi s hi=>?_,λi E k s q hi w F I=>?_⟩
   ·by_cases e:i=d;simp_all;simp_all
   grind
theorem Gg{pre:X->List Y->Prop}{post:X->List Y->List Y->Prop}(t:∀f,Tri dq P f (S f).pt)(h:zY P f im cc rs N)(F:∀x,(A.view x).length+1<=N)(u:WI cc rs S A pre post el n):Tri dq P f (qu9 A pre post el n).pt:=by
 obtain⟨zq,enter,fn,code,h1,h2,h3,h4,h5⟩:=h;refine pw t zq h1 h2 enter h3 h4 h5 ?_;rintro ds H d K ⟨id,v,l,p,x,rfl,w,hid,hp,y⟩;have hl:=A.le p x w;refine⟨by simp only[qGn];rw[hl.1];grind, .own 0 v::A.view x,ai bS 0 (some (.row v el n (l.map enc))),λ_=>id, .cons (.own _ _ _) hl,λi r h=>?_,λi j r s h C _=>?_,_,u v l x hp,?_⟩;simp_all
 ·have a:i=0:=by
   by_cases e:i=0;omega
   ·simp[ai,e]at h
  have b:j=0:=by
   by_cases e:j=0;omega
   ·simp[ai,e]at C
  omega
 ·rintro r H' ⟨j,v',l',rfl,I,c⟩;refine⟨.own id v',bS,ai H id (some (.row v' el n (l'.map enc))),λi=>if i=id then some j else none, .own _ _ _,λj q h=>by simp at h,y v' l' c,λi s hi=>?_,λi J k s q hi E L M=>?_⟩
  ·by_cases e:i=id;simp_all;simp_all;omega
  grind
end
def aD{X:Type}(A:dP X):dP (D×X):=⟨λds=>match ds with|d::r=>(A.dec r).map λx=>(d,x)|_=>none,λx=>x.1::A.view x.2,λds x h=>by
 split at h
 ·simp only[qFR]at h;obtain⟨y,a,rfl⟩:=h;exact .cons (.same _) (A.le _ _ a)
 grind⟩
def aE(X:Type)[Cod X]{Y:Type}(A:dP Y):dP (X×Y):=⟨λds=>match ds with|d::r=>(dec d).bind λx=>(A.dec r).map λy=>(x,y)|_=>none,λx=>enc x.1::A.view x.2,λds x h=>by
 split at h
 ·simp only[qFF,qFR]at h;obtain⟨x,a,y,b,rfl⟩:=h;exact .cons (Cod.le _ _ a) (A.le _ _ b)
 grind⟩
@[simp] theorem qlR{X:Type}(A:dP X)(d:D)(r:List D):(aD A).dec (d::r)=(A.dec r).map λx=>(d,x):=i' rfl
@[simp] theorem qzT{X:Type}(A:dP X)(d:D)(x:X):(aD A).view (d,x)=d::A.view x:=i' rfl
@[simp] theorem qDr{X Y:Type}[Cod X](A:dP Y)(d:D)(r:List D):(aE X A).dec (d::r)=(dec d).bind λx=>(A.dec r).map λy=>(x,y):=i' rfl
@[simp] theorem qzS{X Y:Type}[Cod X](A:dP Y)(x:X)(y:Y):(aE X A).view (x,y)=enc x::A.view y:=i' rfl
def FunIs{X Y:Type}[Cod X][Cod Y](S:Nat->Spc)(d:D)(p:X->Y):Prop:=
 ∃g caps a,d= .clo g caps/\S g= .pure a/\∀x:X,a.pre (enc x::caps)/\∀r,a.post (enc x::caps) r->r=enc (p x)
def FunIs.use'{X Y:Type}[Cod X][Cod Y]{S:Nat->Spc}{d:D}{p:X->Y}(h:FunIs S d p)(x:X)(a:Nat)(H:ab)(K:D->ab->Prop)(hk:∀y:Y,(∀q,FunIs S d q->y=q x)->K (enc y) H):EG S d a [enc x] H K:=by
 grind [FunIs,EG,Spc.pt,aP]
def FunIs.useB{X:Type}[Cod X]{S:Nat->Spc}{d:D}{p:X->Bool}(h:FunIs S d p)(x:X){a:Nat}{H:ab}{K:D->ab->Prop}(hk:∀y:Bool,(∀q,FunIs S d q->y=q x)->K (.v (.bool y)) H):EG S d a [enc x] H K:=h.use' x a H K hk
def FunIs.eq{X Y:Type}[Cod X][Cod Y]{S:Nat->Spc}{d:D}{p q:X->Y}(hex:∀g a ds,S g= .pure a->a.pre ds->∃r,a.post ds r)(h:FunIs S d p)(k:FunIs S d q):p=q:=by
 obtain⟨g,caps,a,rfl,h1,h2⟩:=h;obtain⟨l,b,j,e,c,s⟩:=k;cases e;rw[h1]at c;cases c;funext x;obtain⟨r,t⟩:=hex g a _ h1 (h2 x).1;grind [aP]
def qaV(d:D):Prop:=∀(tp I a b:Nat->Prop) (w w':World) (x:Value),R tp I w x d->R a b w' x d
def PY(v:Value):qaV (.v v):=λtp I a b w w' x h=>by
 cases h with
 |v _ h1 h2=>exact .v _ h1 h2
def ZQ{ds:List D}(h:∀d∈ds,qaV d):qaV (.tup ds):=λtp I a l w w' x b=>by
 cases b with
 |tup xs _ hl j=>exact .tup xs ds hl λk x c h1 h2=>h c (qFK h2) _ _ _ _ _ _ _ (j k x c h1 h2)
section
variable {X Y Z:Type}[Cod Y]
def qC3(A:dP X)(pre:List Y×X->Prop)(er:Z->D)(post:List Y×X->Z->Prop)(el n:Nat):PT:=λd ds H K=>∃id v l a x,ds= .own id v::a/\A.dec a=some x/\H id=some (.row v el n (l.map enc))/\pre (l,x)/\∀z,post (l,x) z->K (er z) H
def qoV(A:dP X)(pre:List Y×X->Prop)(er:Z->D)(post:List Y×X->Z->Prop)(el n:Nat):nC (qC3 A pre er post el n):=λd ds H K b hk ⟨id,v,l,a,x,h1,h2,h3,h4,h5⟩=>⟨id,v,l,a,x,h1,h2,h3,h4,λz hz=>hk _ _ (h5 z hz)⟩
def qzB(A:dP X)(pre:List Y×X->Prop)(er:Z->D)(post:List Y×X->Z->Prop)(el n:Nat):Spc:= .gen _ (qoV A pre er post el n)
def qzA(A:dP X)(pre:List Y×X->Prop)(er:Z->D)(post:List Y×X->Z->Prop)(el n:Nat)(v:Value)(ds:List D)(r:Option Res)(H:ab)(K:D->ab->Prop):Prop:=∃l,r=some (.row v el n (l.map enc))/\eL (A.dec ds) λx=>pre (l,x)/\∀z,post (l,x) z->K (er z) H
@[congr] theorem qC2{A:dP X}{pre:List Y×X->Prop}{er:Z->D}{post:List Y×X->Z->Prop}{el n:Nat}{v:Value}{ds a:List D}{r r':Option Res}{H:ab}{K:D->ab->Prop}(h1:ds=a)(h2:r=r'):qzA A pre er post el n v ds r H K=qzA A pre er post el n v a r' H K:=by grind
@[simp] theorem qC4(A:dP X)(pre:List Y×X->Prop)(er:Z->D)(post:List Y×X->Z->Prop)(el n:Nat)(d i:Nat)(v:Value)(ds:List D)(H:ab)(K:D->ab->Prop):(qzB A pre er post el n).pt d (.own i v::ds) H K=qzA A pre er post el n v ds (H i) H K:=by
 refine propext ⟨λh=>?_,λh=>?_⟩
 ·obtain⟨id,v,l,b,x,h1,h2,h3,h4,h5⟩:=h;cases h1;refine⟨l,h3,?_⟩;rw[h2];exact⟨h4,h5⟩
 ·obtain⟨l,h1,h2⟩:=h;cases a:A.dec ds with
  |none=>rw[a]at h2;exact h2.elim
  |some x=>rw[a]at h2;exact⟨i,v,l,ds,x,rfl,a,h1,h2.1,h2.2⟩
@[simp] theorem qER(A:dP X)(pre:List Y×X->Prop)(er:Z->D)(post:List Y×X->Z->Prop)(el n:Nat)(v:Value)(ds:List D)(l:List Y)(H:ab)(K:D->ab->Prop):qzA A pre er post el n v ds (some (.row v el n (l.map enc))) H K=eL (A.dec ds) λx=>pre (l,x)/\∀z,post (l,x) z->K (er z) H:=by
 refine propext ⟨λ⟨l',h1,h2⟩=>?_,λh=>⟨l,rfl,h⟩⟩;simp at h1;subst h1;exact h2
theorem Oc{P:Program}{f:Nat}{A:dP X}{pre:List Y×X->Prop}{er:Z->D}{post:List Y×X->Z->Prop}{el n:Nat}(hf:Tri dq P f (aG (aE (List Y) A) pre er post).pt)(hn:n=Cod.wd Y)(p:∀z,qaV (er z)):Tri dq P f (qzB A pre er post el n).pt:=by
 intro O tp w vs ds H d K hO M a hlen t hA;obtain⟨id,v,l,E,x,rfl,hd,hid,hp,hK⟩:=hA;subst hn;cases vs with
 |nil=>grind
 | cons J vs=>
   have Q:J=v:=by
    have:=t 0 J (.own id v) rfl rfl;cases this;rfl
   subst Q
   let L:Nat->Prop:=λb=>O b\/ ∃i r,i≠id/\H i=some r/\r.blk=some b
   have F:∀b,aR O tp H w b->aR L tp bS w b:=λb hb=>⟨hb.1,λh=>h.elim hb.2.1 λ⟨i,r,_,h1,h2⟩=>hb.2.2.2 ⟨i,r,h1,h2⟩,hb.2.2.1,λ⟨i,r,h1,_⟩=>by simp at h1⟩
   have U:∀y e,R tp (aR O tp H w) w y e->R tp (aR L tp bS w) w y e:=λy e W=>W.mono (λ_ h=>h) (λb hb=>⟨F b hb,rfl⟩) (λb _=> .refl _ _)
   have hl:R tp (aR L tp bS w) w J (.list (Cod.wd Y) (l.map enc)):=OT (λb hb=>by
    have h1:=a.out id _ b hid hb;refine⟨(a.ok id _ hid).lt hb,λh=>h.elim h1.1 λ⟨i,r,hne,h2,h3⟩=>hne (a.dis _ _ _ _ b h2 hid h3 hb),h1.2,λ⟨i,r,h2,_⟩=>by simp at h2⟩) ((a.ok id _ hid).conv U (λ_ _=>rfl))
   have I:(aE (List Y) A).dec (.list (Cod.wd Y) (l.map enc)::E)=some (l,x):=by simp[hd]
   obtain⟨hce,hc⟩:=hf L tp w (J::vs) (.list (Cod.wd Y) (l.map enc)::E) bS d (λr H'=>∃z,r=er z/\post (l,x) z/\H'=bS)
    (λb hb=>hb.elim (hO b) λ⟨i,r,_,h1,h2⟩=>(a.ok i r h1).lt h2) (M.mono λb ⟨i,r,h,_⟩=>by simp at h) ⟨λi j r s b h=>by simp,λi r b h=>by simp at h,λi r h=>by simp at h⟩ (by omega)
    (λk y e h1 h2=>by
      grind)
    (by rw[mO,I];exact⟨hp,λz hz=>⟨z,rfl,hz,rfl⟩⟩)
   refine⟨hce,hc.mono ?_⟩;rintro e w' ⟨q,r,H',u,rfl,⟨z,rfl,hz,rfl⟩,t1,t2,t3,hs,ho,hsat',hR⟩;have c:∀b,b<w.heap.size->¬tp b->w'.heap[b]? =w.heap[b]?:=λb hb ht=>hs.same b hb (λ⟨i,r,h,_⟩=>by simp at h) ht
   have C:∀y e,R tp (aR O tp H w) w y e->R u (aR O u H w') w' y e:=λy e W=>W.mono t1 (λb hb=>⟨⟨qFX hb.1 hs.size,hb.2.1,λh=>by
    rcases t2 b h with h|h
    ·exact hb.2.2.1 h
    ·have:=hb.1;omega,hb.2.2.2⟩,c b hb.1 hb.2.2.1⟩) hs.tapes
   refine⟨q,er z,H,u,rfl,hK z hz,t1,t2,t3,⟨hs.os,hs.tape,hs.output,hs.size,λb hb _ ht=>c b hb ht,hs.tapes,hs.drawn⟩,λb h=> .inl h,⟨a.dis,λi r b h1 h2=>?_,λi r h1=>?_⟩,p z _ _ _ _ _ _ _ hR⟩
   ·have:=a.out i r b h1 h2;refine⟨this.1,λh=>?_⟩;rcases t2 b h with h|h;grind
    ·have:=(a.ok i r h1).lt h2;omega
   ·exact(a.ok i r h1).conv C λb hb=>c b ((a.ok i r h1).lt hb) (a.out i r b h1 hb).2
end
end
section
def RSub(r r':Res):Prop:=r=r'\/ ∃b cs cs',r= .box b cs/\r'= .box b cs'/\cs.length=cs'.length/\∀(m:Nat) (c c':D),cs[m]? =some c->cs'[m]? =some c'->WL c c'
theorem RSub.blk{r r':Res}(h:RSub r r'):r'.blk=r.blk:=by
 grind [Res.blk,RSub]
def RSub.ok{tp I:Nat->Prop}{w w':World}{r r':Res}(h:RSub r r')(d:ResOk (R tp I w) w' r):ResOk (R tp I w) w' r':=by
 rcases h with rfl|⟨b,cs,cs',rfl,rfl,hl,hc⟩;omega
 ·obtain⟨xs,el,h1,h2,h3⟩:=d;refine⟨xs,el,h1,h2.trans hl,λk y c j a=>?_⟩;have hk:k<cs.length:=by grind
  have h4:=h3 k y cs[k] j (qFH hk);exact⟨h4.1,qpW (hc k _ _ (qFH hk) a) h4.2⟩
theorem StW.ren{E:CO}{tp:Nat->Prop}{H H':ab}{w:World}(ρ:Nat->Nat)(h:StW E tp H w)(k:∀i j r s,H' i=some r->H' j=some s->ρ i=ρ j->i=j)
 (hs:∀i r,H' i=some r->∃a,H (ρ i)=some a/\RSub a r):
 StW E tp H' w/\∀x d,R tp (aR E.O tp H w) w x d->R tp (aR E.O tp H' w) w x d:=by
 have c:∀b,bA H' b->bA H b:=λb ⟨i,r,h1,h2⟩=>by
  obtain⟨a,h3,h4⟩:=hs i r h1;exact⟨ρ i,a,h3,h4.blk ▸h2⟩
 have move:∀x d,R tp (aR E.O tp H w) w x d->R tp (aR E.O tp H' w) w x d:=λx d l=>
  l.mono (λ_ h=>h) (λb hb=>⟨⟨hb.1,hb.2.1,hb.2.2.1,λho=>hb.2.2.2 (c b ho)⟩,rfl⟩) (λb _=> .refl _ _)
 refine⟨⟨h.hO,h.tpx,h.tpn,h.tpl,h.step,λb hb=>h.loc b (c b hb),⟨λi j r s b h1 h2 h3 h4=>?_,λi r b h1 h2=>?_,λi r h1=>?_⟩⟩,move⟩
 ·obtain⟨a,a1,a2⟩:=hs i r h1;obtain⟨p,b1,b2⟩:=hs j s h2;exact k i j r s h1 h2 (h.sat.dis _ _ a p b a1 b1 (a2.blk ▸h3) (b2.blk ▸h4))
 ·obtain⟨a,a1,a2⟩:=hs i r h1;exact h.sat.out _ a b a1 (a2.blk ▸h2)
 ·obtain⟨a,a1,a2⟩:=hs i r h1;exact a2.ok ((h.sat.ok _ a a1).conv move (λ_ _=>rfl))
theorem qqd{σ:Sg}{H:ab}(i j k b:Nat)(cs cs':List D)(q:i≠j)(hk:k≠i/\k≠j)(d:H k=some (.box b cs))(hl:cs.length=cs'.length)(hc:∀(m:Nat) (c c':D),cs[m]? =some c->cs'[m]? =some c'->WL c c'):
 Wk σ H σ (ai (ai (ai H i none) j (H i)) k (some (.box b cs'))):=by
 intro E a w h;obtain⟨u,x,tp,y,A⟩:=h;have hm:=y.ren (H':=ai (ai (ai H i none) j (H i)) k (some (.box b cs'))) (λt=>if t=j then i else t) (λa c r s h1 h2 h3=>?_) (λt r h1=>?_)
 ·exact⟨u,x,tp,hm.1,λt=>hm.2 _ _ (A t)⟩
 ·simp only[ai]at h1 h2;grind
 ·simp only[ai]at h1;by_cases l:t=k
  ·subst l;simp only[if_true]at h1;cases h1;simp only[hk.2,if_false];exact⟨_,d, .inr ⟨b,cs,cs',rfl,rfl,hl,hc⟩⟩
  ·simp only[l,if_false]at h1;by_cases p:t=j
   ·simp only[p,if_true]at h1 ⊢;exact⟨r,h1, .inl rfl⟩
   ·simp only[p,if_false]at h1 ⊢;by_cases C:t=i;grind
    ·simp only[C,if_false]at h1;exact⟨r,h1, .inl rfl⟩
section
variable {S:Nat->Spc}{σ σ1:Sg}{H H1:ab}{K:Ex->Sg->ab->Prop}
theorem qhx{k:Nat}{b:CC}(a:Wk σ H σ1 H1)(h:vc S (.loop k b) K σ1 H1):vc S (.loop k b) K σ H:=by
 grind [Wk,Wo]
def Ka{id i n c a b:Nat}{body:CC}(d:Wk σ H σ1 H1)(h:vc S (gd id i n c a body b) K σ1 H1):vc S (gd id i n c a body b) K σ H:=by
 grind [gd,Wp,qhx]
end
variable {dq:Prop}
section
variable {X Y:Type}
def qC0(ce:X->List D)(cf:Y->List D)(pre:X->Prop)(post:X->Y->Prop):PT:=λd ds H K=>∃L id b x,ds=[.tape L, .bptr id b 0]/\H id=some (.box b (ce x))/\pre x/\∀y,post x y->K (.tup []) (ai H id (some (.box b (cf y))))
def qoU(ce:X->List D)(cf:Y->List D)(pre:X->Prop)(post:X->Y->Prop):nC (qC0 ce cf pre post):=λd ds H K c hk ⟨L,id,b,x,h1,h2,h3,h4⟩=>⟨L,id,b,x,h1,h2,h3,λy a=>hk _ _ (h4 y a)⟩
def qzz(ce:X->List D)(cf:Y->List D)(pre:X->Prop)(post:X->Y->Prop):Spc:= .gen _ (qoU ce cf pre post)
def qCZ(ce:X->List D)(cf:Y->List D)(pre:X->Prop)(post:X->Y->Prop)(id b:Nat)(r:Option Res)(H:ab)(K:D->ab->Prop):Prop:=∃x,r=some (.box b (ce x))/\pre x/\∀y,post x y->K (.tup []) (ai H id (some (.box b (cf y))))
@[congr] theorem qCY{ce:X->List D}{cf:Y->List D}{pre:X->Prop}{post:X->Y->Prop}{id b:Nat}{r r':Option Res}{H:ab}{K:D->ab->Prop}(h:r=r'):qCZ ce cf pre post id b r H K=qCZ ce cf pre post id b r' H K:=by grind
@[simp] theorem qC1(ce:X->List D)(cf:Y->List D)(pre:X->Prop)(post:X->Y->Prop)(d i b:Nat)(L:List Int)(H:ab)(K:D->ab->Prop):(qzz ce cf pre post).pt d [.tape L, .bptr i b 0] H K=qCZ ce cf pre post i b (H i) H K:=by
 refine propext ⟨λh=>?_,λh=>?_⟩
 ·obtain⟨a,id,b',x,h1,h2,h3,h4⟩:=h;cases h1;exact⟨x,h2,h3,h4⟩
 ·obtain⟨x,h1,h2,h3⟩:=h;exact⟨L,i,b,x,rfl,h1,h2,h3⟩
variable {P:Program}{S:Nat->Spc}{f:Nat}{im:List Nat}{cc:CC}{rs:List aj}{N:Nat}
end
def HWk(H a:ab):Prop:=∀(E:CO) (tp:Nat->Prop) (w:World),StW E tp H w->StW E tp a w/\∀x d,R tp (aR E.O tp H w) w x d->R tp (aR E.O tp a w) w x d
def HWk.refl(H:ab):HWk H H:=λ_ _ _ h=>⟨h,λ_ _ h=>h⟩
def Wk.trans{σ b c:Sg}{H d j:ab}(h:Wk σ H b d)(k:Wk b d c j):Wk σ H c j:=λE a w hs=>k E a w (h E a w hs)
def qop(k:Nat)(ks:List Nat)(H:ab):ab:=λi=>if i=k\/i∈ks then none else H i
def left(k b:Nat)(cs:List D)(ks:List Nat)(H:ab):ab:=λi=>if i=k then some (.box b cs)else if i∈ks then H i else none
theorem qog{H:ab}(k b:Nat)(cs cs':List D)(ks:List Nat)(hk:H k=some (.box b cs))(hl:cs.length=cs'.length)
 (hc:∀(m:Nat) (c c':D),cs[m]? =some c->cs'[m]? =some c'->FrzTo (qop k ks H) c c'):HWk H (left k b cs' ks H):=by
 intro E tp w h;have hs:∀i r,left k b cs' ks H i=some r->(i=k/\r= .box b cs')\/(i≠k/\i∈ks/\H i=some r):=λi r h1=>by
  simp only[left]at h1;grind
 have a:∀i r c,left k b cs' ks H i=some r->r.blk=some c->∃q,H i=some q/\q.blk=some c:=λi r c h1 h2=>by
  grind [Res.blk]
 have l:∀c,bA (left k b cs' ks H) c->bA H c:=λc ⟨i,r,h1,h2⟩=>by
  grind [bA]
 have p:∀c,aR E.O tp H w c->aR E.O tp (left k b cs' ks H) w c:=λc hb=>⟨hb.1,hb.2.1,hb.2.2.1,λho=>hb.2.2.2 (l c ho)⟩
 have move:∀x d,R tp (aR E.O tp H w) w x d->R tp (aR E.O tp (left k b cs' ks H) w) w x d:=λx d A=>
  A.mono (λ_ h=>h) (λb hb=>⟨p b hb,rfl⟩) (λb _=> .refl _ _)
 refine⟨⟨h.hO,h.tpx,h.tpn,h.tpl,h.step,λb hb=>h.loc b (l b hb),⟨λi j r s c h1 h2 h3 h4=>?_,λi r c h1 h2=>?_,λi r h1=>?_⟩⟩,move⟩
 ·obtain⟨q,a1,a2⟩:=a i r c h1 h3;obtain⟨t,b1,b2⟩:=a j s c h2 h4;exact h.sat.dis i j q t c a1 b1 a2 b2
 ·obtain⟨q,a1,a2⟩:=a i r c h1 h2;exact h.sat.out i q c a1 a2
 ·rcases hs i r h1 with⟨rfl,rfl⟩|⟨_,_,h3⟩
  ·obtain⟨xs,el,h1,h2,h3⟩:=h.sat.ok _ _ hk;refine⟨xs,el,h1,h2.trans hl,λm y c C u=>?_⟩;have hm:m<cs.length:=by grind
   have h4:=h3 m y cs[m] C (qFH hm);refine⟨h4.1,(hc m _ _ (qFH hm) u).R (H:=bS) (λi r hi=>?_) p (λi r c hi hb=>?_) h4.2⟩
   ·simp only[qop]at hi;split at hi;grind
    ·exact h.sat.ok i r hi
   ·simp only[qop]at hi;split at hi;grind
    ·rename_i hn;have ho:=h.sat.out i r c hi hb;refine⟨(h.sat.ok i r hi).lt hb,ho.1,ho.2,λ⟨j,s,F,I⟩=>?_⟩;obtain⟨t,J,L⟩:=a j s c F I;have e:=h.sat.dis i j r t c hi J hb L;grind
  ·exact(h.sat.ok i r h3).conv move (λ_ _=>rfl)
section
variable {S:Nat->Spc}{σ:Sg}{H:ab}{K:Ex->Sg->ab->Prop}
def qm1{X:Type}(P:X->Prop)(s:X->Sg)(h:X->ab){k:Nat}{a b:CC}
 (d:vc S a (Zg (λc H'=>∃x,P x/\Wk c H' (s x) (h x)) K) σ H)
 (hb:∀x,P x->vc S b K (s x) (h x)):vc S (MJ k a b) K σ H:=by
 unfold MJ;rw[Z1];refine AV a _ _ (λe c H' h=>?_) d;cases e<;>grind [Yl,Zg,qkO]
end
section
variable {P:Program}{im:List Nat}{E:CO}{S:Nat->Spc}
theorem qbB{f:Nat}{fn:Func}{code:Code}{cc:CC}{rs:List aj}{A:PT}(hS:∀f,Tri dq P f (S f).pt)(hmix:P.follows .mixedOrders=true)(hf:P.funcs[f]? =some fn)(hb:fn.body=some code)(hce:dc P f){N:Nat}(hN:fn.ntmps=N)
 (hcc:aI P im N code=some (bP cc)) (hrs:fn.results.toList.mapM (hZ P)=some rs)
 (hA:∀ (ds:List D) (H:ab) (d:Nat) (K:D->ab->Prop),A d ds H K->ds.length<=N/\
   ∃ (Y:List D) (M:ab) (ι:Nat->Nat),LeL ds Y/\(∀i r,M i=some r->H (ι i)=some r)/\(∀i j r s,M i=some r->M j=some s->ι i=ι j->i=j)/\
    ∃Q:D->ab->Prop,vc S cc (vE rs Q) (dR Y) M/\∀r H',Q r H'->∃(r':D) (H2 Hf Hc:ab) (κ:Nat->Option Nat),HWk H' H2/\FrzTo Hf r r'/\(∀j q,Hf j=some q->H2 j=some q/\∀i,κ i≠some j)/\K r' Hc/\
     (∀i s,Hc i=some s->match κ i with|some j=>H2 j=some s|none=>H i=some s/\∀k q,M k=some q->ι k≠i)/\
     (∀i j k s q,Hc i=some s->Hc j=some q->κ i=some k->κ j=some k->i=j)):Tri dq P f A:=by
 intro O tp w vs ds H d K hO htl u hlen hargs hAK;refine⟨hce,?_⟩;obtain⟨hdN,Y,M,ι,hle,C,hinj,Q,hv,hQ⟩:=hA ds H d K hAK
 let W:Nat->Prop:=λi=>∃k q,M k=some q/\ι k=i
 let rest:Nat->Prop:=λb=>∃i r,H i=some r/\ ¬W i/\r.blk=some b
 let E:CO:={ O:=λb=>O b\/rest b,tp0:=tp,w0:=w,own0:=bA M,N:=N,dq:=dq }
 have y:∀b,bA M b->bA H b:=λb ⟨i,r,h1,h2⟩=>⟨ι i,r,C i r h1,h2⟩
 have Z:∀b,rest b->b<w.heap.size:=λb ⟨i,r,h1,_,h2⟩=>(u.ok i r h1).lt h2
 have I:∀b,rest b->¬bA M b:=λb ⟨i,r,h1,h2,h3⟩ ⟨j,s,h4,h5⟩=>h2 ⟨j,s,h4,(u.dis i (ι j) r s b h1 (C j s h4) h3 h5).symm⟩
 have himm:∀b,aR O tp H w b->aR E.O tp M w b:=λb hb=>⟨hb.1,λh=>h.elim hb.2.1 (λ⟨i,r,h1,_,h2⟩=>hb.2.2.2 ⟨i,r,h1,h2⟩),hb.2.2.1,λh=>hb.2.2.2 (y b h)⟩
 have hmove:∀x e,R tp (aR O tp H w) w x e->R tp (aR E.O tp M w) w x e:=λx e hr=>hr.mono (λ_ h=>h) (λb hb=>⟨himm b hb,rfl⟩) (λb _=> .refl _ _)
 have hstw:StW E tp M w:=by
  refine⟨λb hb=>hb.elim (hO b) (Z b),λb h=>h,λb h=> .inl h,⟨htl.1,htl.2.mono (λ_ h=>h) y⟩, .refl _ _ _,λb hb=> .inl hb,⟨λi j r s b h1 h2 h3 h4=>?_,λi r b h1 h2=>⟨λh=>?_,?_⟩,λi r h1=>?_⟩⟩
  ·exact hinj i j r s h1 h2 (u.dis _ _ r s b (C i r h1) (C j s h2) h3 h4)
  ·rcases h with h|h
   ·exact(u.out _ r b (C i r h1) h2).1 h
   ·exact I b h ⟨i,r,h1,h2⟩
  ·exact(u.out _ r b (C i r h1) h2).2
  ·exact(u.ok _ r (C i r h1)).conv hmove (λ_ _=>rfl)
 have hst:St E (dR Y) M { tmps:=vs.toArray++Array.replicate (fn.ntmps -vs.toArray.size) undef,defers:=[] } w:=by
  refine⟨rfl,?_,tp,hstw,λt=>?_⟩
  ·show(vs.toArray++Array.replicate (fn.ntmps -vs.toArray.size) undef).size=N;simp;omega
  ·unfold dR;cases hd:Y[t]? with
   |none=>exact .any _
   | some e'=>
     have hlt:t<vs.length:=by rw[hlen,hle.1];exact(qFG.1 hd).1
     have hlt':t<ds.length:=by rw[<-hlen];exact hlt
     have hg:(vs.toArray++Array.replicate (fn.ntmps -vs.toArray.size) undef).getD t undef=vs[t]:=by
      rw[qGz,qGA (by simpa using hlt)];simp[hlt]
     simp only[qGu,hg];have he:=qFH hlt';exact(hle.2 t _ e' he hd).R (H:=bS) (λi r h=>by cases h) (λ_ h=>h) (λi r b h=>by cases h) (hmove _ _ (hargs t _ _ (by simp[hlt]) he))
 have hwp:=Ae hS hmix cc code (by exact hcc) _ _ _ _ w hst hv;refine calls_of_wp hf hb (qHb ?_ hwp);have fin:∀a' w' J H',St E J H' a' w'->(Bm rs J H' λds=>Q (lC ds) H')->
  a'.defers=[]/\∃v,(results fn a'.tmps).run P w'= .ok v w'/\qaU dq O tp H w K (.returned v) w':=by
  intro a' w' J H' hst' hres;obtain⟨hd',hN',U,hw',hr'⟩:=hst';obtain⟨v,r0,hrun,hR,hq⟩:=tD (K:=λr=>Q r H') hrs hr' hw'.sat.ok hres;obtain⟨r,H2,Hf,Hc,κ,hW,hfz,hHf,hK,hκ,hκi⟩:=hQ r0 H' hq;obtain⟨p,mv2⟩:=hW _ _ _ hw';refine⟨hd',v,hrun,v,r,Hc,U,rfl,hK,p.tpx,p.tpn,p.tpl.1,?_,?_,?_,?_⟩
  ·-- the step
   have hs:=p.step;exact⟨hs.os,hs.tape,hs.output,hs.size,λb hb ho ht=>hs.same b hb (λh=>ho (y b h)) ht,hs.tapes,hs.drawn⟩
  all_goals
   have L:∀i s,Hc i=some s->(∃j,κ i=some j/\H2 j=some s)\/(κ i=none/\H i=some s/\ ¬W i):=λi s hi=>by
    have:=hκ i s hi;cases hk:κ i with
    |some j=>rw[hk]at this;exact .inl ⟨j,rfl,this⟩
    |none=>rw[hk]at this;exact .inr ⟨rfl,this.1,λ⟨k,q,h1,h2⟩=>this.2 k q h1 h2⟩
  ·intro b ⟨i,s,h1,h2⟩;rcases L i s h1 with⟨j,_,h3⟩|⟨_,h3,_⟩
   ·rcases p.loc b ⟨j,s,h3,h2⟩with h4|h4
    ·exact .inl (y b h4)
    ·exact .inr h4
   ·exact .inl ⟨i,s,h3,h2⟩
  all_goals
   have hownc:∀b,bA Hc b->bA H2 b\/rest b:=λb ⟨i,s,h1,h2⟩=>by
    rcases L i s h1 with⟨j,_,h3⟩|⟨_,h3,h4⟩
    ·exact .inl ⟨j,s,h3,h2⟩
    ·exact .inr ⟨i,s,h3,h4,h2⟩
   have himmc:∀b,aR E.O U H2 w' b->aR O U Hc w' b:=λb hb=>⟨hb.1,λh=>hb.2.1 (.inl h),hb.2.2.1,λh=>by
    rcases hownc b h with h|h
    ·exact hb.2.2.2 h
    ·exact hb.2.1 (.inr h)⟩
   have hmovec:∀x e,R U (aR E.O U H2 w') w' x e->R U (aR O U Hc w') w' x e:=λx e hr=>hr.mono (λ_ h=>h) (λb hb=>⟨himmc b hb,rfl⟩) (λb _=> .refl _ _)
  ·refine⟨λi j s q b h1 h2 h3 h4=>?_,λi s b h1 h2=>?_,λi s h1=>?_⟩
   ·rcases L i s h1 with⟨i',e1,F⟩|⟨e1,F,p1⟩
    ·rcases L j q h2 with⟨j',e2,k2⟩|⟨e2,k2,p2⟩
     ·have:=p.sat.dis i' j' s q b F k2 h3 h4;subst this;exact hκi i j i' s q h1 h2 e1 e2
     ·exact absurd (Or.inr ⟨j,q,k2,p2,h4⟩) (p.sat.out i' s b F h3).1
    ·rcases L j q h2 with⟨j',e2,k2⟩|⟨e2,k2,p2⟩
     ·exact absurd (Or.inr ⟨i,s,F,p1,h3⟩) (p.sat.out j' q b k2 h4).1
     ·exact u.dis i j s q b F k2 h3 h4
   ·rcases L i s h1 with⟨i',e1,F⟩|⟨e1,F,p1⟩
    ·have:=p.sat.out i' s b F h2;exact⟨λh=>this.1 (.inl h),this.2⟩
    ·have h3:=u.out i s b F h2;refine⟨h3.1,λh=>?_⟩;rcases p.tpn b h with h4|h4
     ·exact h3.2 h4
     ·have:=(u.ok i s F).lt h2;have h4':w.heap.size<=b:=h4;omega
   ·rcases L i s h1 with⟨i',e1,F⟩|⟨e1,F,p1⟩
    ·exact(p.sat.ok i' s F).conv hmovec (λ_ _=>rfl)
    ·-- a resource that was not handed in is as it was
     have hs:=p.step;have hsame:∀b,b<w.heap.size->¬bA M b->¬tp b->w'.heap[b]? =w.heap[b]?:=hs.same;refine(u.ok i s F).conv (λx e hr=>?_) (λb hb=>hsame b ((u.ok i s F).lt hb) (I b ⟨i,s,F,p1,hb⟩) (u.out i s b F hb).2);refine hr.mono p.tpx (λb hb=>?_) hs.tapes;have h0:¬bA M b:=λh=>hb.2.2.2 (y b h)
     have hsz:w.heap.size<=w'.heap.size:=hs.size;have hbl:b<w.heap.size:=hb.1;refine⟨⟨by omega,hb.2.1,λh=>?_,λh=>?_⟩,hsame b hb.1 h0 hb.2.2.1⟩
     ·rcases p.tpn b h with h4|h4
      ·exact hb.2.2.1 h4
      ·have h4':w.heap.size<=b:=h4;omega
     ·rcases hownc b h with h|h
      ·rcases p.loc b h with h4|h4
       ·exact h0 h4
       ·have h4':w.heap.size<=b:=h4;omega
      ·obtain⟨j,q,h5,_,h6⟩:=h;exact hb.2.2.2 ⟨j,q,h5,h6⟩
  ·refine hfz.R (H:=bS) (λi q hi=>p.sat.ok i q (hHf i q hi).1) himmc (λi q b hi hb=>?_) (mv2 _ _ hR);obtain⟨hi',hne⟩:=hHf i q hi;have ho:=p.sat.out i q b hi' hb;refine⟨(p.sat.ok i q hi').lt hb,λh=>ho.1 (.inl h),ho.2,λ⟨j,s,h1,h2⟩=>?_⟩;rcases L j s h1 with⟨j',e1,F⟩|⟨e1,F,p1⟩
   ·have:=p.sat.dis i j' q s b hi' F hb h2;subst this;exact hne j e1
   ·exact ho.1 (.inr ⟨j,s,F,p1,h2⟩)
 intro e a' w' hp;cases e with
 | normal=>
   obtain⟨J,H',hs,hk⟩:=hp;exact fin a' w' J H' hs hk
 | ret=>
   obtain⟨J,H',hs,hk⟩:=hp;exact fin a' w' J H' hs hk
 | exit i=>
   obtain⟨J,H',hs,hk⟩:=hp;exact hk.elim
 |goto l=>exact hp.elim
 |panic c=>exact hp.elim
 |outgrown=>exact hp.elim
end
end
section
open Cod (enc dec)
variable {S S0:Nat->Spc}
def Pz(x n:Int)(h:1<=n):0<=KV x n/\KV x n<n:=by
 unfold KV;rw[if_neg (by omega)];have h1:=Int.tmod_lt_of_pos x (show 0<n by omega);have h2: -n<x.tmod n:=by
  have h3:=Int.natAbs_tmod x n;have h4:x.natAbs % n.natAbs<n.natAbs:=qG8 _ (by omega);omega
 split<;>omega
def qtf:CC:= .reg [
 .op (some 4) none (.mv (.const (.int .i64 0)))]
def qrx:CC:= .seq (.regd [
 .op (some 5) none (.mv (.tmp 0)),
 .op (some 6) none (.nilck (.tmp 5)),
 .op (some 7) none (.faddr 1 (.tmp 6)),
 .op (some 8) none (.load false 1 (.tmp 7)),
 .op (some 9) none (.mv (.tmp 0)),
 .op (some 10) none (.nilck (.tmp 9)),
 .op (some 11) none (.faddr 0 (.tmp 10)),
 .op (some 12) none (.load false 1 (.tmp 11)),
 .op (some 13) none (.len (.tmp 12))] [
 .op (some 14) none (.cmp .geq (.tmp 8) (.tmp 13))]) (.ite (.tmp 14) (.seq (.reg [
  .op (some 4) none (.mv (.const (.int .i64 0)))]) .ret) .skip)
def qpI:CC:= .reg [
 .op (some 15) none (.mv (.tmp 0)),
 .op (some 16) none (.nilck (.tmp 15)),
 .op (some 17) none (.faddr 1 (.tmp 16)),
 .op (some 18) none (.load false 1 (.tmp 17)),
 .op (some 19) none (.arith .add (.tmp 18) (.const (.int .i64 1))),
 .op (some 20) none (.nilck (.tmp 15)),
 .op (some 21) none (.faddr 1 (.tmp 20)),
 .op none none (.store none 1 (.tmp 21) (.tmp 19))]
def qte:CC:= .seq (.regd [
 .op (some 22) none (.mv (.tmp 0)),
 .op (some 23) none (.nilck (.tmp 22)),
 .op (some 24) none (.faddr 0 (.tmp 23)),
 .op (some 25) none (.load false 1 (.tmp 24)),
 .op (some 26) none (.mv (.tmp 0)),
 .op (some 27) none (.nilck (.tmp 26)),
 .op (some 28) none (.faddr 1 (.tmp 27)),
 .op (some 29) none (.load false 1 (.tmp 28)),
 .op (some 30) none (.arith .sub (.tmp 29) (.const (.int .i64 1))),
 .op (some 31) none (.iaddr 1 (.tmp 25) (.tmp 30)),
 .op (some 32) none (.load false 1 (.tmp 31)),
 .op (some 33) none (.mv (.tmp 1))] [
 .op (some 34) none (.call yx [(.tmp 32),(.tmp 33)]),
 .op (some 4) none (.mv (.tmp 34))]) .ret
def qjs:bP xO= .seq qtf (.seq qrx (.seq qpI qte)):=rfl
def quQ:bP qtf=qtf:=rfl
def quP:bP qrx=qrx:=rfl
def quO:bP qpI=qpI:=rfl
def quN:bP qte=qte:=rfl
def qpH(b:Nat)(s:Value)(i n:Int):Ex->Sg->ab->Prop:=λe a H=>match e with
 | .norm=>a 0= .bptr 0 b 0/\a 1= .v (.int .i64 n)/\H 0=some (.box b [.v s, .v (.int .i64 (i+1))])/\i<slen s
 | .ret=>a 4= .v (.int .i64 0)/\H 0=some (.box b [.v s, .v (.int .i64 i)])
 | .ex _=>False
@[simp ↓] theorem qEd(b:Nat)(s:Value)(i n:Int)(a:Sg)(H:ab):qpH b s i n .norm a H=(a 0= .bptr 0 b 0/\a 1= .v (.int .i64 n)/\H 0=some (.box b [.v s, .v (.int .i64 (i+1))])/\i<slen s):=i' rfl
@[simp ↓] theorem qEc(b:Nat)(s:Value)(i n:Int)(a:Sg)(H:ab):qpH b s i n .ret a H=(a 4= .v (.int .i64 0)/\H 0=some (.box b [.v s, .v (.int .i64 i)])):=i' rfl
def qnH(b:Nat)(a:Option Addr)(len cap:Nat)(i n:Int)(h0:0<=i)(hl:(len:Int)<=9223372036854775807):vc S (.seq qtf (.seq qrx qpI)) (qpH b (.slice a len cap) i n) (dR [.bptr 0 b 0, .v (.int .i64 n)]) (ai bS 0 (some (.box b [.v (.slice a len cap), .v (.int .i64 i)]))):=by
 simp[qtf,qrx,qpI,slen];intro h;exact⟨by simp only[InR];omega,h⟩
def qEb(n:Int):Ex->Sg->ab->Prop:=λe a H=>match e with
 | .ret=>∃y,a 4= .v (.int .i64 y)/\(n< 1/\y=0\/1<=n/\0<=y/\y<n)
 | _=>False
@[simp ↓] theorem qEa(n:Int)(a:Sg)(H:ab):qEb n .ret a H=(∃y,a 4= .v (.int .i64 y)/\(n< 1/\y=0\/1<=n/\0<=y/\y<n)):=i' rfl
def qnG(hm:S yx=s_m_Mod)(L:List Int)(i n:Int)(h0:0<=i)(hi:i<L.length)(hn:n<=1000000000)(hl:(L.length:Int)<=9223372036854775807):vc S qte (qEb n) (dR [.cptr [.list 1 (L.map enc), .v (.int .i64 (i+1))] 0, .v (.int .i64 n)]) bS:=by
 obtain⟨x,b⟩:=aQ (l:=L) (k:=i.toNat) (by omega);simp[qte,hm];refine⟨by simp only[InR];omega,h0,hi,λa _=>⟨hn,?_⟩⟩;rcases Int.lt_or_le n 1 with h|h
 ·exact .inl ⟨h,by simp[KV,h]⟩
 ·exact .inr ⟨h,Pz a n h⟩
end
section
open Cod (enc dec)
variable {dq:Prop}
def PK{tp I p r:Nat->Prop}{w w':World}{s:Value}{es:List D}(q:∀d∈es,∃n,d= .v (.int .i64 n))(h:R tp I w s (.list 1 es))(hI:∀c,I c->r c/\w'.heap[c]? =w.heap[c]?):R p r w' s (.list 1 es):=by
 cases h with
 |nolist a cap _=>exact .nolist _ _ _
 | list b off cap n es f hb hc hm hz hn hcell h1 h2=>
   refine .list b off cap _ es f (hI b hb).1 hc hm (λh=>absurd rfl h) hn (λk c hk=>by rw[qHr (w:=w) (hI b hb).2];exact hcell k c hk) h1 (λk c hk=>?_);have j:=qFK hk;simp only[bp,qG5]at j;obtain⟨d,t,l⟩:=j;obtain⟨n,rfl⟩:=q d t;simp[D.cells]at l;subst l;have:=h2 k _ hk;generalize f k=y at this ⊢;cases this with
   |v _ a1 a2=>exact .v _ a1 a2
def Qm{P:Program}{im:List Nat}{N:Nat}{code:Code}{a b:CC}(h:aI P im N code=some (.seq a b)):∃x y,code= .seq x y/\aI P im N x=some a/\aI P im N y=some b:=by
 rcases bz h with⟨h,_⟩|⟨_,_,_,_,h,_⟩|⟨_,_,_,_,_,h⟩|⟨c,b',x,y,h1,h2,h3,h4⟩|⟨_,_,_,_,_,_,h,_⟩|⟨_,_,_,_,h,_⟩|⟨_,_,_,h,_⟩|⟨_,_,h⟩|⟨_,h⟩ <;>try (simp at h;done)
 cases h2;exact⟨c,b',h1,h3,h4⟩
abbrev s_m_Next:Spc:=aG (aT (a1 Int)) (λx=>x.2<=1000000000) (enc (X:=Int)) (λx y=>x.2< 1/\y=0\/1<=x.2/\0<=y/\y<x.2)
section
variable {P:Program}{S:Nat->Spc}{f:Nat}{im:List Nat}{N:Nat}
theorem qhL(hS:∀f,Tri dq P f (S f).pt)(hm:S yx=s_m_Mod)(h:zY P f im xO DE N)(hN:2<=N):Tri dq P f s_m_Next.pt:=by
 obtain⟨zq,enter,fn,code,h1,h2,h3,h4,h5⟩:=h;subst h3;rw[qjs]at h4;obtain⟨x0,y0,rfl,hc0,h4⟩:=Qm h4;obtain⟨xA,yA,rfl,hcA,h4⟩:=Qm h4;obtain⟨xB,xC,rfl,hcB,hcC⟩:=Qm h4;intro O tp w vs ds H d K hO htl Q hlen U hA;refine⟨enter,calls_of_wp h1 h2 ?_⟩;simp only[s_m_Next,mO]at hA;cases hd:(aT (a1 Int)).dec ds with
 |none=>rw[hd]at hA;exact hA.elim
 |some x=>
 rw[hd]at hA;obtain⟨L,n⟩:=x;obtain⟨hp,hK⟩:=hA;have hl:=(aT (a1 Int)).le ds (L,n) hd;have hl1:ds.length=2:=hl.1
 match ds,vs,hl,hl1,hlen,U with
 | [d0,d1], [v0,v1],hl,_,_,U=>
 have e0:d0= .tape L:=by
  have:=hl.2 0 d0 (.tape L) rfl rfl;cases this;rfl
 have e1:d1= .v (.int .i64 n):=by
  have:=hl.2 1 d1 (.v (.int .i64 n)) rfl rfl;cases this;rfl
 subst e0;subst e1;have r1:=(U 1 v1 _ rfl rfl).inv_v;subst r1;have r0:=U 0 v0 _ rfl rfl;cases r0 with
 |tape b _ s i el hb hh g0 g1 gs hR=>
 obtain⟨a,len,cap,rfl⟩:∃a len cap,s= .slice a len cap:=by
  generalize L.map (λn=>D.v (.int .i64 n))=es at hR;cases hR<;>exact⟨_,_,_,rfl⟩
 have hlen:(len:Int)<=9223372036854775807:=by
  generalize L.map (λn=>D.v (.int .i64 n))=es at hR;cases hR with
  |nolist=>simp
  |list b off cap n es f hI hc hm=>simp only[maxLen]at hm;omega
 have hLl:len=L.length:=gs;have hbl:=htl.1 b hb
 let O2:Nat->Prop:=λx=>(O x\/bA H x)/\x≠b
 let tp2:Nat->Prop:=λx=>tp x/\x≠b
 let E2:CO:={ O:=O2,tp0:=tp2,w0:=w,own0:=λx=>x=b,N:=fn.ntmps,dq:=dq }
 let H2:ab:=ai bS 0 (some (.box b [.v (.slice a len cap), .v (.int .i64 i)]))
 have hownlt:∀c,bA H c->c<w.heap.size:=λc ⟨j,r,C,Y⟩=>(Q.ok j r C).lt Y
 have h2:∀j r,H2 j=some r->j=0/\r= .box b [.v (.slice a len cap), .v (.int .i64 i)]:=λj r hj=>by
  by_cases e:j=0
  ·subst e;simp only[H2,ai,if_true]at hj;cases hj;exact⟨rfl,rfl⟩
  ·simp[H2,ai,e,bS]at hj
 have hst:St E2 (dR [.bptr 0 b 0, .v (.int .i64 n)]) H2 { tmps:= #[.pointer (some ⟨b,0,none⟩), .int .i64 n] ++Array.replicate (fn.ntmps -2) undef,defers:=[] } w:=by
  refine⟨rfl,?_,tp2,⟨λc hc=>hc.1.elim (hO c) (hownlt c),λc hc=>hc,λc hc=> .inl hc,⟨λc hc=>htl.1 c hc.1,λp hp=>⟨λh=>(htl.2 p hp).1 h.1,λh=>(htl.2 p hp).1 (h ▸hb),(htl.2 p hp).2.2⟩⟩, .refl _ _ _,λc ⟨j,r,C,Y⟩=>?_,⟨λj k r q c C Y k3 k4=>?_,λj r c C Y=>?_,λj r C=>?_⟩⟩,λt=>?_⟩
  ·show(_:Array Value).size=fn.ntmps;simp;omega
  ·obtain⟨_,rfl⟩:=h2 j r C;cases Y;exact .inl rfl
  ·rw[(h2 j r C).1,(h2 k q Y).1]
  ·obtain⟨_,rfl⟩:=h2 j r C;cases Y;exact⟨λh=>h.2 rfl,λh=>h.2 rfl⟩
  ·obtain⟨_,rfl⟩:=h2 j r C;refine⟨_,el,hh,rfl,λk y c hy hc=>?_⟩;rcases k with _|_|k
   ·simp at hy hc;subst hy;subst hc;exact⟨rfl, .v _ rfl (λs hs=>by cases hs)⟩
   ·simp at hy hc;subst hy;subst hc;exact⟨rfl, .v _ rfl (λs hs=>by cases hs)⟩
   ·simp at hy
  ·have q0:(#[Value.pointer (some ⟨b,0,none⟩), .int .i64 n] ++Array.replicate (fn.ntmps -2) undef).getD 0 undef=Value.pointer (some ⟨b,0,none⟩):=by
    rw[qGz,qGA (by simp)];rfl
   have q1:(#[Value.pointer (some ⟨b,0,none⟩), .int .i64 n] ++Array.replicate (fn.ntmps -2) undef).getD 1 undef=Value.int .i64 n:=by
    rw[qGz,qGA (by simp)];rfl
   rcases t with _|_|t
   ·show R _ _ _ (Array.getD _ 0 undef) _;rw[q0];exact .bptr _ _ _
   ·show R _ _ _ (Array.getD _ 1 undef) _;rw[q1];exact .v _ rfl (λs hs=>by cases hs)
   ·exact .any _
 have fin:∀(Z:World) (j y:Int) (W:Nat),Z.os=w.os->Z.tape=w.tape->Z.output=w.output->w.heap.size<=Z.heap.size->(∀c,c<w.heap.size->¬tp c->Z.heap[c]? =w.heap[c]?)->
  (∀c,tp c->c≠b->TapeStep w Z c)->Z.heap[b]? =some (.cells #[.slice a len cap, .int .i64 j] W (0,0))->0<=j->j<=len->(dq->w.drawn<=Z.drawn)->
  (n< 1/\y=0\/1<=n/\0<=y/\y<n)->qaU dq O tp H w K (.returned (.int .i64 y)) Z:=by
  intro Z j y W s1 s2 s3 s4 s5 s6 s7 s8 s9 s11 s10;have htapes:∀c,tp c->TapeStep w Z c:=λc hc=>by
   by_cases e:c=b
   ·subst e;intro s' i' el0 hh' _ _;rw[hh]at hh';cases hh';exact⟨j,W,s7,s8,s9⟩
   ·exact s6 c hc e
  refine⟨_, .v (.int .i64 y),H,tp,rfl,hK y s10,λc hc=>hc,λc hc=> .inl hc,λc hc=>qFX (htl.1 c hc) s4,⟨s1,s2,s3,s4,λc hc _ ht=>s5 c hc ht,htapes,s11⟩,λc hc=> .inl hc,
   ⟨Q.dis,Q.out,λk r hk=>(Q.ok k r hk).conv (λx d hr=>hr.mono (λ_ h=>h) (λc hc=>⟨⟨qFX hc.1 s4,hc.2.1,hc.2.2.1,hc.2.2.2⟩,s5 c hc.1 hc.2.2.1⟩) htapes) (λc hc=>s5 c ((Q.ok k r hk).lt hc) (Q.out k r c hk hc).2)⟩, .v _ rfl (λs hs=>by cases hs)⟩
 have hv:=qnH (S:=S) b a len cap i n g0 hlen;have cells2:∀(tp':Nat->Prop) (H':ab) (w':World) (j:Int),StW E2 tp' H' w'->H' 0=some (.box b [.v (.slice a len cap), .v (.int .i64 j)])->∃W,w'.heap[b]? =some (.cells #[.slice a len cap, .int .i64 j] W (0,0)):=by
  intro tp' H' w' j hw hH;obtain⟨xs,W,C,Y,k3⟩:=hw.sat.ok 0 _ hH;refine⟨W,?_⟩;rw[C];obtain⟨l⟩:=xs
  match l,Y,k3 with
  | [x,y],_,k3=>
    have a1:=(k3 0 x _ rfl rfl).2.inv_v;have a2:=(k3 1 y _ rfl rfl).2.inv_v;rw[a1,a2]
 have hret:∀(a':Act) (w':World) (σ':Sg) (H':ab),St E2 σ' H' a' w'->qpH b (.slice a len cap) i n .ret σ' H'->a'.defers=[]/\∃v,(results fn a'.tmps).run P w'= .ok v w'/\qaU dq O tp H w K (.returned v) w':=by
  rintro a' w' σ' H' ⟨hd',hN',tp',hw',hr'⟩ ⟨C,Y⟩;obtain⟨v,r0,hrun,hRv,hq⟩:=tD (H:=H') (K:=λr=>r= .v (.int .i64 0)) h5 hr' hw'.sat.ok C;subst hq;have:=hRv.inv_v;subst this;obtain⟨W,k3⟩:=cells2 tp' H' w' i hw' Y;have st:=hw'.step;refine⟨hd',_,hrun,fin w' i 0 W st.os st.tape st.output st.size (λc hc ht=>st.same c hc (λe=>ht (e ▸hb)) (λh=>ht h.1)) (λc hc hcb=>st.tapes c ⟨hc,hcb⟩) k3 g0 g1 st.drawn ?_⟩;rcases Int.lt_or_le n 1 with h|h
  ·exact .inl ⟨h,rfl⟩
  ·exact .inr ⟨h,by omega,by omega⟩
 have htail:∀(a':Act) (w':World) (σ':Sg) (H':ab),St E2 σ' H' a' w'->qpH b (.slice a len cap) i n .norm σ' H'->xC.wp P (bodyPost P fn (qaU dq O tp H w K)) a' w':=by
  rintro a1 J M H1 ⟨hd1,hN1,F,hw1,hr1⟩ ⟨C,Y,k3,k4⟩;obtain⟨el1,k5⟩:=cells2 F H1 J (i+1) hw1 k3;have A:=hw1.step;have hsz1:w.heap.size<=J.heap.size:=A.size;have same1:∀c,c<w.heap.size->¬tp c->J.heap[c]? =w.heap[c]?:=λc hc ht=>A.same c hc (λe=>ht (e ▸hb)) (λh=>ht h.1)
  have tp1o:∀c,c<w.heap.size->F c->tp2 c:=λc hc h=>(hw1.tpn c h).elim id (λh=>by
   have h:w.heap.size<=c:=h;omega)
  have hb1:¬F b:=λh=>(tp1o b hbl h).2 rfl
  let E3:CO:={ O:=O2,tp0:=F,w0:=J,own0:=λ_=>False,N:=fn.ntmps,dq:=dq }
  have himm:∀c,aR O tp H w c->aR O2 F bS J c/\J.heap[c]? =w.heap[c]?:=λc hc=>⟨⟨qFX hc.1 hsz1,λh=>h.1.elim hc.2.1 hc.2.2.2,λh=>hc.2.2.1 (tp1o c hc.1 h).1,λ⟨j,r,h,_⟩=>by simp[bS]at h⟩,same1 c hc.1 hc.2.2.1⟩
  have hbi:aR O2 F bS J b:=⟨qFX hbl hsz1,λh=>h.2 rfl,hb1,λ⟨j,r,h,_⟩=>by simp[bS]at h⟩
  have hRs:R F (aR O2 F bS J) J (.slice a len cap) (.list 1 (L.map enc)):=PK (es:=L.map λn=>D.v (.int .i64 n)) (λd hd=>by simp at hd;obtain⟨n,_,rfl⟩:=hd;exact⟨n,rfl⟩) hR himm;have st3:St E3 (dR [.cptr [.list 1 (L.map enc), .v (.int .i64 (i+1))] 0, .v (.int .i64 n)]) bS a1 J:=by
   refine⟨hd1,hN1,F,⟨λc hc=>qFX (hc.1.elim (hO c) (hownlt c)) hsz1,λc hc=>hc,λc hc=> .inl hc,⟨hw1.tpl.1,hw1.tpg.2.mono (λ_ h=>h) (λb h=>h.elim)⟩, .refl _ _ _,λc ⟨j,r,C,Y⟩=>by simp[bS]at C,⟨λj k r q c C Y k3 k4=>by simp[bS]at C,λj r c C Y=>by simp[bS]at C,λj r C=>by simp[bS]at C⟩⟩,λt=>?_⟩;rcases t with _|_|t
   ·have r0:=hr1 0;rw[C]at r0;generalize a1.tmps.getD 0 undef=v0 at r0 ⊢;cases r0;obtain⟨f,q1,q2,q3⟩:=tq (tp:=F) (I:=aR O2 F bS J) (w:=J) (cells:=[.list 1 (L.map enc), .v (.int .i64 (i+1))]) k5 rfl (by
     intro k y c hy hc;rcases k with _|_|k
     ·simp at hy hc;subst hy;subst hc;exact⟨rfl,by simpa using hRs⟩
     ·simp at hy hc;subst hy;subst hc;exact⟨rfl, .v _ rfl (λs hs=>by cases hs)⟩
     ·simp at hy)
    have:=Gv.R.cptr (tp:=F) (I:=aR O2 F bS J) b 0 [.list 1 (L.map enc), .v (.int .i64 (i+1))] 0 f hbi (λ_=>⟨_,_,k5⟩) q1 q2 q3;simpa [dR]using this
   ·have r0:=hr1 1;rw[Y]at r0;have:=r0.inv_v;show R _ _ _ _ (.v (.int .i64 n));rw[this];exact .v _ rfl (λs hs=>by cases hs)
   ·exact .any _
  have hv3:=qnG (S:=S) hm L i n g0 (by have:i<(len:Int):=k4;omega) hp (by omega);refine qHb ?_ (Ae (E:=E3) hS zq qte xC (by rw[quN];exact hcC) _ _ _ _ _ st3 hv3);intro e a2 Z hp2;cases e with
  | ret=>
    obtain⟨σ2,H2',⟨hd2,hN2,tp2',hw2,hr2⟩,y,k6,k7⟩:=hp2;obtain⟨v,r0,hrun,hRv,hq⟩:=tD (H:=H2') (K:=λr=>r= .v (.int .i64 y)) h5 hr2 hw2.sat.ok k6;subst hq;have:=hRv.inv_v;subst this;have st2:=hw2.step;have hsz2:J.heap.size<=Z.heap.size:=st2.size;have same2:∀c,c<J.heap.size->¬F c->Z.heap[c]? =J.heap[c]?:=λc hc ht=>st2.same c hc (λh=>h) ht
    refine⟨hd2,_,hrun,fin Z (i+1) y el1 (st2.os.trans A.os) (st2.tape.trans A.tape) (st2.output.trans A.output) (qGl hsz1 hsz2) (λc hc ht=>?_) (λc hc hcb=>(A.tapes c ⟨hc,hcb⟩).trans (st2.tapes c (hw1.tpx c ⟨hc,hcb⟩))) ?_ (by omega) (by have:i<(len:Int):=k4;omega) (λq=>qGl (A.drawn q) (st2.drawn q)) k7⟩
    ·rw[same2 c (by omega) (λh=>ht (tp1o c hc h).1),same1 c hc ht]
    ·rw[same2 b (by omega) hb1,k5]
  |normal=>obtain⟨σ2,H2',_,k⟩:=hp2;exact k.elim
  |exit j=>obtain⟨σ2,H2',_,k⟩:=hp2;exact k.elim
  |goto l=>exact hp2.elim
  |panic c=>exact hp2.elim
  |outgrown=>exact hp2.elim
 refine wp_seq (qHb ?_ (Ae (E:=E2) hS zq qtf x0 (by rw[quQ];exact hc0) (Yl S (.seq qrx qpI) (qpH b (.slice a len cap) i n)) _ _ _ _ hst hv));intro e a1 J u;cases e with
 | normal=>
   obtain⟨M,H1,A,C⟩:=u;refine wp_seq (qHb ?_ (Ae (E:=E2) hS zq qrx xA (by rw[quP];exact hcA) (Yl S qpI (qpH b (.slice a len cap) i n)) _ _ _ _ A C));intro e a1 J u;cases e with
   | normal=>
     obtain⟨M,H1,A,C⟩:=u;refine wp_seq (qHb ?_ (Ae (E:=E2) hS zq qpI xB (by rw[quO];exact hcB) (qpH b (.slice a len cap) i n) _ _ _ _ A C));intro e a1 J u;cases e with
     |normal=>obtain⟨M,H1,A,C⟩:=u;exact htail a1 J M H1 A C
     |ret=>obtain⟨M,H1,A,C⟩:=u;exact hret a1 J M H1 A C
     |exit j=>obtain⟨σ2,H2',_,k⟩:=u;exact k.elim
     |goto l=>exact u.elim
     |panic c=>exact u.elim
     |outgrown=>exact u.elim
   |ret=>obtain⟨M,H1,A,C⟩:=u;exact hret a1 J M H1 A C
   |exit j=>obtain⟨σ2,H2',_,k⟩:=u;exact k.elim
   |goto l=>exact u.elim
   |panic c=>exact u.elim
   |outgrown=>exact u.elim
 |ret=>obtain⟨M,H1,A,C⟩:=u;exact hret a1 J M H1 A C
 |exit j=>obtain⟨σ2,H2',_,k⟩:=u;exact k.elim
 |goto l=>exact u.elim
 |panic c=>exact u.elim
 |outgrown=>exact u.elim
end
end
end Go.Gv
