/- A part of the framework and of the walks: X1 X2 X9 W210 X3 Xs W211. -/
import Derived.Test.YtfbleenmepoodaaGreatDoorGb41
import Derived.Test.YtfbleenmepoodaaGreatDoorGb38
set_option linter.unusedSimpArgs false
set_option linter.unusedVariables false
set_option linter.unusedSectionVars false
set_option linter.defProp false
set_option maxRecDepth 100000
set_option maxHeartbeats 0
namespace Go.Gv
open Go.Proofs
def dT:List Nat:=(List.range 200).map (· +100000)
def Cx:CC:=by refine(λ(_:G.rw_ Tryz.prog Tryz.f189 dT=?c)=>?c) ?h;case h=>conv=>lhs;reduce
def Cr:List aj:=by refine(λ(_:((Tryz.f189.results.toList.mapM (am { Tryz.prog with cutTypes:= #[] })).getD [])=?c)=>?c) ?h;case h=>conv=>lhs;reduce
def Cu:X.Fn:=⟨Cx,Cr,48⟩
def H4:CC:=by refine(λ(_:G.rw_ Tryz.prog Tryz.f122 dT=?c)=>?c) ?h;case h=>conv=>lhs;reduce
def HO:List aj:=by refine(λ(_:((Tryz.f122.results.toList.mapM (am { Tryz.prog with cutTypes:= #[] })).getD [])=?c)=>?c) ?h;case h=>conv=>lhs;reduce
def yR:X.Fn:=⟨H4,HO,81⟩
def HY:CC:=by refine(λ(_:G.rw_ Tryz.prog Tryz.f149 dT=?c)=>?c) ?h;case h=>conv=>lhs;reduce
def HN:List aj:=by refine(λ(_:((Tryz.f149.results.toList.mapM (am { Tryz.prog with cutTypes:= #[] })).getD [])=?c)=>?c) ?h;case h=>conv=>lhs;reduce
def yQ:X.Fn:=⟨HY,HN,16⟩
def HW:CC:=by refine(λ(_:G.rw_ Tryz.prog Tryz.f97 dT=?c)=>?c) ?h;case h=>conv=>lhs;reduce
def HL:List aj:=by refine(λ(_:((Tryz.f97.results.toList.mapM (am { Tryz.prog with cutTypes:= #[] })).getD [])=?c)=>?c) ?h;case h=>conv=>lhs;reduce
def HR:X.Fn:=⟨HW,HL,8⟩
def A3:CC:=by refine(λ(_:G.rw_ Tryz.prog Tryz.f96 dT=?c)=>?c) ?h;case h=>conv=>lhs;reduce
def AV:List aj:=by refine(λ(_:((Tryz.f96.results.toList.mapM (am { Tryz.prog with cutTypes:= #[] })).getD [])=?c)=>?c) ?h;case h=>conv=>lhs;reduce
def AZ:X.Fn:=⟨A3,AV,8⟩
def FK:CC:=by refine(λ(_:G.rw_ Tryz.prog Tryz.f208 dT=?c)=>?c) ?h;case h=>conv=>lhs;reduce
def FG:List aj:=by refine(λ(_:((Tryz.f208.results.toList.mapM (am { Tryz.prog with cutTypes:= #[] })).getD [])=?c)=>?c) ?h;case h=>conv=>lhs;reduce
def FI:X.Fn:=⟨FK,FG,38⟩
def A2:CC:=by refine(λ(_:G.rw_ Tryz.prog Tryz.f207 dT=?c)=>?c) ?h;case h=>conv=>lhs;reduce
def AU:List aj:=by refine(λ(_:((Tryz.f207.results.toList.mapM (am { Tryz.prog with cutTypes:= #[] })).getD [])=?c)=>?c) ?h;case h=>conv=>lhs;reduce
def AY:X.Fn:=⟨A2,AU,70⟩
def HV:CC:=by refine(λ(_:G.rw_ Tryz.prog Tryz.f95 dT=?c)=>?c) ?h;case h=>conv=>lhs;reduce
def HK:List aj:=by refine(λ(_:((Tryz.f95.results.toList.mapM (am { Tryz.prog with cutTypes:= #[] })).getD [])=?c)=>?c) ?h;case h=>conv=>lhs;reduce
def yP:X.Fn:=⟨HV,HK,73⟩
def FJ:CC:=by refine(λ(_:G.rw_ Tryz.prog Tryz.f170 dT=?c)=>?c) ?h;case h=>conv=>lhs;reduce
def FF:List aj:=by refine(λ(_:((Tryz.f170.results.toList.mapM (am { Tryz.prog with cutTypes:= #[] })).getD [])=?c)=>?c) ?h;case h=>conv=>lhs;reduce
def FH:X.Fn:=⟨FJ,FF,47⟩
def Cw:CC:=by refine(λ(_:G.rw_ Tryz.prog Tryz.f125 dT=?c)=>?c) ?h;case h=>conv=>lhs;reduce
def Cq:List aj:=by refine(λ(_:((Tryz.f125.results.toList.mapM (am { Tryz.prog with cutTypes:= #[] })).getD [])=?c)=>?c) ?h;case h=>conv=>lhs;reduce
def Ct:X.Fn:=⟨Cw,Cq,26⟩
def Cv:CC:=by refine(λ(_:G.rw_ Tryz.prog Tryz.f172 dT=?c)=>?c) ?h;case h=>conv=>lhs;reduce
def Cp:List aj:=by refine(λ(_:((Tryz.f172.results.toList.mapM (am { Tryz.prog with cutTypes:= #[] })).getD [])=?c)=>?c) ?h;case h=>conv=>lhs;reduce
def Cs:X.Fn:=⟨Cv,Cp,61⟩
def Kt:CC:=by refine(λ(_:G.rw_ Tryz.prog Tryz.f156 dT=?c)=>?c) ?h;case h=>conv=>lhs;reduce
def Kl:List aj:=by refine(λ(_:((Tryz.f156.results.toList.mapM (am { Tryz.prog with cutTypes:= #[] })).getD [])=?c)=>?c) ?h;case h=>conv=>lhs;reduce
def Kp:X.Fn:=⟨Kt,Kl,168⟩
def Ks:CC:=by refine(λ(_:G.rw_ Tryz.prog Tryz.f174 dT=?c)=>?c) ?h;case h=>conv=>lhs;reduce
def Kk:List aj:=by refine(λ(_:((Tryz.f174.results.toList.mapM (am { Tryz.prog with cutTypes:= #[] })).getD [])=?c)=>?c) ?h;case h=>conv=>lhs;reduce
def Ko:X.Fn:=⟨Ks,Kk,20⟩
def Qh:CC:=by refine(λ(_:G.rw_ Tryz.prog Tryz.f209 dT=?c)=>?c) ?h;case h=>conv=>lhs;reduce
def Qc:List aj:=by refine(λ(_:((Tryz.f209.results.toList.mapM (am { Tryz.prog with cutTypes:= #[] })).getD [])=?c)=>?c) ?h;case h=>conv=>lhs;reduce
def Qf:X.Fn:=⟨Qh,Qc,15⟩
def HU:CC:=by refine(λ(_:G.rw_ Tryz.prog Tryz.f126 dT=?c)=>?c) ?h;case h=>conv=>lhs;reduce
def HJ:List aj:=by refine(λ(_:((Tryz.f126.results.toList.mapM (am { Tryz.prog with cutTypes:= #[] })).getD [])=?c)=>?c) ?h;case h=>conv=>lhs;reduce
def HQ:X.Fn:=⟨HU,HJ,27⟩
def DE:CC:=by refine(λ(_:G.rw_ Tryz.prog Tryz.f171 dT=?c)=>?c) ?h;case h=>conv=>lhs;reduce
def Dz:List aj:=by refine(λ(_:((Tryz.f171.results.toList.mapM (am { Tryz.prog with cutTypes:= #[] })).getD [])=?c)=>?c) ?h;case h=>conv=>lhs;reduce
def DA:X.Fn:=⟨DE,Dz,22⟩
def Qg:CC:=by refine(λ(_:G.rw_ Tryz.prog Tryz.f176 dT=?c)=>?c) ?h;case h=>conv=>lhs;reduce
def Qb:List aj:=by refine(λ(_:((Tryz.f176.results.toList.mapM (am { Tryz.prog with cutTypes:= #[] })).getD [])=?c)=>?c) ?h;case h=>conv=>lhs;reduce
def Qe:X.Fn:=⟨Qg,Qb,20⟩
def yT:CC:=by refine(λ(_:G.rw_ Tryz.prog Tryz.f173 dT=?c)=>?c) ?h;case h=>conv=>lhs;reduce
def yL:List aj:=by refine(λ(_:((Tryz.f173.results.toList.mapM (am { Tryz.prog with cutTypes:= #[] })).getD [])=?c)=>?c) ?h;case h=>conv=>lhs;reduce
def yO:X.Fn:=⟨yT,yL,15⟩
def yS:CC:=by refine(λ(_:G.rw_ Tryz.prog Tryz.f157 dT=?c)=>?c) ?h;case h=>conv=>lhs;reduce
def yK:List aj:=by refine(λ(_:((Tryz.f157.results.toList.mapM (am { Tryz.prog with cutTypes:= #[] })).getD [])=?c)=>?c) ?h;case h=>conv=>lhs;reduce
def yN:X.Fn:=⟨yS,yK,16⟩
def xr:CC:=by refine(λ(_:G.rw_ Tryz.prog Tryz.f177 dT=?c)=>?c) ?h;case h=>conv=>lhs;reduce
def xf:List aj:=by refine(λ(_:((Tryz.f177.results.toList.mapM (am { Tryz.prog with cutTypes:= #[] })).getD [])=?c)=>?c) ?h;case h=>conv=>lhs;reduce
def xk:X.Fn:=⟨xr,xf,21⟩
def A1:CC:=by refine(λ(_:G.rw_ Tryz.prog Tryz.f155 dT=?c)=>?c) ?h;case h=>conv=>lhs;reduce
def AT:List aj:=by refine(λ(_:((Tryz.f155.results.toList.mapM (am { Tryz.prog with cutTypes:= #[] })).getD [])=?c)=>?c) ?h;case h=>conv=>lhs;reduce
def AX:X.Fn:=⟨A1,AT,39⟩
def xq:CC:=by refine(λ(_:G.rw_ Tryz.prog Tryz.f186 dT=?c)=>?c) ?h;case h=>conv=>lhs;reduce
def xe:List aj:=by refine(λ(_:((Tryz.f186.results.toList.mapM (am { Tryz.prog with cutTypes:= #[] })).getD [])=?c)=>?c) ?h;case h=>conv=>lhs;reduce
def xj:X.Fn:=⟨xq,xe,44⟩
def qZ:CC:=by refine(λ(_:G.rw_ Tryz.prog Tryz.f199 dT=?c)=>?c) ?h;case h=>conv=>lhs;reduce
def qV:List aj:=by refine(λ(_:((Tryz.f199.results.toList.mapM (am { Tryz.prog with cutTypes:= #[] })).getD [])=?c)=>?c) ?h;case h=>conv=>lhs;reduce
def qX:X.Fn:=⟨qZ,qV,50⟩
def wv:CC:=by refine(λ(_:G.rw_ Tryz.prog Tryz.f198 dT=?c)=>?c) ?h;case h=>conv=>lhs;reduce
def wl:List aj:=by refine(λ(_:((Tryz.f198.results.toList.mapM (am { Tryz.prog with cutTypes:= #[] })).getD [])=?c)=>?c) ?h;case h=>conv=>lhs;reduce
def wq:X.Fn:=⟨wv,wl,103⟩
def ur:CC:=by refine(λ(_:G.rw_ Tryz.prog Tryz.f150 dT=?c)=>?c) ?h;case h=>conv=>lhs;reduce
def uf:List aj:=by refine(λ(_:((Tryz.f150.results.toList.mapM (am { Tryz.prog with cutTypes:= #[] })).getD [])=?c)=>?c) ?h;case h=>conv=>lhs;reduce
def um:X.Fn:=⟨ur,uf,65⟩
def wu:CC:=by refine(λ(_:G.rw_ Tryz.prog Tryz.f200 dT=?c)=>?c) ?h;case h=>conv=>lhs;reduce
def wk:List aj:=by refine(λ(_:((Tryz.f200.results.toList.mapM (am { Tryz.prog with cutTypes:= #[] })).getD [])=?c)=>?c) ?h;case h=>conv=>lhs;reduce
def wo:X.Fn:=⟨wu,wk,22⟩
def xp:CC:=by refine(λ(_:G.rw_ Tryz.prog Tryz.f152 dT=?c)=>?c) ?h;case h=>conv=>lhs;reduce
def xc:List aj:=by refine(λ(_:((Tryz.f152.results.toList.mapM (am { Tryz.prog with cutTypes:= #[] })).getD [])=?c)=>?c) ?h;case h=>conv=>lhs;reduce
def xi:X.Fn:=⟨xp,xc,22⟩
def xo:CC:=by refine(λ(_:G.rw_ Tryz.prog Tryz.f151 dT=?c)=>?c) ?h;case h=>conv=>lhs;reduce
def xb:List aj:=by refine(λ(_:((Tryz.f151.results.toList.mapM (am { Tryz.prog with cutTypes:= #[] })).getD [])=?c)=>?c) ?h;case h=>conv=>lhs;reduce
def xh:X.Fn:=⟨xo,xb,30⟩
def uq:CC:=by refine(λ(_:G.rw_ Tryz.prog Tryz.f187 dT=?c)=>?c) ?h;case h=>conv=>lhs;reduce
def ue:List aj:=by refine(λ(_:((Tryz.f187.results.toList.mapM (am { Tryz.prog with cutTypes:= #[] })).getD [])=?c)=>?c) ?h;case h=>conv=>lhs;reduce
def ul:X.Fn:=⟨uq,ue,46⟩
def wt:CC:=by refine(λ(_:G.rw_ Tryz.prog Tryz.f153 dT=?c)=>?c) ?h;case h=>conv=>lhs;reduce
def wj:List aj:=by refine(λ(_:((Tryz.f153.results.toList.mapM (am { Tryz.prog with cutTypes:= #[] })).getD [])=?c)=>?c) ?h;case h=>conv=>lhs;reduce
def wn:X.Fn:=⟨wt,wj,25⟩
def uo:CC:=by refine(λ(_:G.rw_ Tryz.prog Tryz.f169 dT=?c)=>?c) ?h;case h=>conv=>lhs;reduce
def ud:List aj:=by refine(λ(_:((Tryz.f169.results.toList.mapM (am { Tryz.prog with cutTypes:= #[] })).getD [])=?c)=>?c) ?h;case h=>conv=>lhs;reduce
def uj:X.Fn:=⟨uo,ud,86⟩
def un:CC:=by refine(λ(_:G.rw_ Tryz.prog Tryz.f124 dT=?c)=>?c) ?h;case h=>conv=>lhs;reduce
def uc:List aj:=by refine(λ(_:((Tryz.f124.results.toList.mapM (am { Tryz.prog with cutTypes:= #[] })).getD [])=?c)=>?c) ?h;case h=>conv=>lhs;reduce
def ui:X.Fn:=⟨un,uc,10⟩
def ws:CC:=by refine(λ(_:G.rw_ Tryz.prog Tryz.f123 dT=?c)=>?c) ?h;case h=>conv=>lhs;reduce
def wi:List aj:=by refine(λ(_:((Tryz.f123.results.toList.mapM (am { Tryz.prog with cutTypes:= #[] })).getD [])=?c)=>?c) ?h;case h=>conv=>lhs;reduce
def wm:X.Fn:=⟨ws,wi,55⟩
def xn:CC:=by refine(λ(_:G.rw_ Tryz.prog Tryz.f188 dT=?c)=>?c) ?h;case h=>conv=>lhs;reduce
def xa:List aj:=by refine(λ(_:((Tryz.f188.results.toList.mapM (am { Tryz.prog with cutTypes:= #[] })).getD [])=?c)=>?c) ?h;case h=>conv=>lhs;reduce
def xg:X.Fn:=⟨xn,xa,17⟩
def HT:CC:=by refine(λ(_:G.rw_ Tryz.prog Tryz.f154 dT=?c)=>?c) ?h;case h=>conv=>lhs;reduce
def HI:List aj:=by refine(λ(_:((Tryz.f154.results.toList.mapM (am { Tryz.prog with cutTypes:= #[] })).getD [])=?c)=>?c) ?h;case h=>conv=>lhs;reduce
def HP:X.Fn:=⟨HT,HI,164⟩
def Kr:CC:=by refine(λ(_:G.rw_ Tryz.prog Tryz.f175 dT=?c)=>?c) ?h;case h=>conv=>lhs;reduce
def Kj:List aj:=by refine(λ(_:((Tryz.f175.results.toList.mapM (am { Tryz.prog with cutTypes:= #[] })).getD [])=?c)=>?c) ?h;case h=>conv=>lhs;reduce
def Kn:X.Fn:=⟨Kr,Kj,40⟩
def DB:CC:=by refine(λ(_:G.rw_ Tryz.prog Tryz.f70 dT=?c)=>?c) ?h;case h=>conv=>lhs;reduce
def Dx:List aj:=by refine(λ(_:((Tryz.f70.results.toList.mapM (am { Tryz.prog with cutTypes:= #[] })).getD [])=?c)=>?c) ?h;case h=>conv=>lhs;reduce
def ug:X.Fn:=⟨DB,Dx,25⟩
open Go.Proofs X
variable {dq:Prop}
def qaS(p:Nat×X.Fn):Prop:=∃im,aq Tryz.prog p.1 im (yy p.2.cc) p.2.rs p.2.N
def pM {f N : Nat} {cc : CC} {rs : List aj} (h : ((Tryz.prog.funcs[f]?).bind fun g => if g.name == "runtime.NumGoroutine" then none else g.body.bind fun c => (ay Tryz.prog dT g.ntmps c).bind fun cc => (g.results.toList.mapM (am Tryz.prog)).bind fun rs => some (g.ntmps, cc, rs)) = some (N, bh (yy cc), rs)) : qaS (f, ⟨cc, rs, N⟩) := ⟨dT, Y1 mixed h⟩
def qbT:∀p∈ ([]:List (Nat×X.Fn)),qaS p:=λp h=>by cases h
def bM{p:Nat×X.Fn}{l:List (Nat×X.Fn)}(h:qaS p)(hl:∀p∈l,qaS p):∀q∈p::l,qaS q:=λq hq=>by
 rcases qmw.1 hq with rfl|hq
 ·exact h
 ·exact hl q hq
def dl:List (Nat×X.Fn):=[(E7,Cu),(mJ,yR),(mI,yQ),(Mk,HR),(C0,AZ),(JJ,FI),(CZ,AY),(mG,yP),(JI,FH),(E6,Ct),(E5,Cs),(Oh,Kp),(Og,Ko),(Ux,Qf),(Mj,HQ),(Gk,DA),(Uw,Qe),(BL,yO),(BK,yN),(Ay,xk),(CY,AX),(Aw,xj),(sQ,qX),(yv,wq),(wH,um),(yu,wo),(Av,xi),(Au,xh),(wG,ul),(yt,wn),(wF,uj),(wE,ui),(yr,wm),(At,xg),(Mi,HP),(Of,Kn),(mc,ug)]
theorem qdY:∀p∈dl,qaS p:=bM (pM (by kernel_rfl)) <|bM (pM (by kernel_rfl)) <|bM (pM (by kernel_rfl)) <|bM (pM (by kernel_rfl)) <|bM (pM (by kernel_rfl)) <|bM (pM (by kernel_rfl)) <|bM (pM (by kernel_rfl)) <|bM (pM (by kernel_rfl)) <|bM (pM (by kernel_rfl)) <|bM (pM (by kernel_rfl)) <|bM (pM (by kernel_rfl)) <|bM (pM (by kernel_rfl)) <|bM (pM (by kernel_rfl)) <|bM (pM (by kernel_rfl)) <|bM (pM (by kernel_rfl)) <|bM (pM (by kernel_rfl)) <|bM (pM (by kernel_rfl)) <|bM (pM (by kernel_rfl)) <|bM (pM (by kernel_rfl)) <|bM (pM (by kernel_rfl)) <|bM (pM (by kernel_rfl)) <|bM (pM (by kernel_rfl)) <|bM (pM (by kernel_rfl)) <|bM (pM (by kernel_rfl)) <|bM (pM (by kernel_rfl)) <|bM (pM (by kernel_rfl)) <|bM (pM (by kernel_rfl)) <|bM (pM (by kernel_rfl)) <|bM (pM (by kernel_rfl)) <|bM (pM (by kernel_rfl)) <|bM (pM (by kernel_rfl)) <|bM (pM (by kernel_rfl)) <|bM (pM (by kernel_rfl)) <|bM (pM (by kernel_rfl)) <|bM (pM (by kernel_rfl)) <|bM (pM (by kernel_rfl)) <|bM (pM (by kernel_rfl)) <|qbT
noncomputable def Δ(f:Nat):Option X.Fn:=qfS dl f
def ZO:PF:=λ_ _=>none
def qbV(k f:Nat):Tri dq Tryz.prog f (Rq Δ ZO (Dl []) k f).pt:=
 OX (ag ae) (λk f args r h=>by cases h) (λf fn h=>qdY _ (Jn _ _ _ h)) k f
def qbU{f:Nat}{fn:X.Fn}(h:Δ f=some fn)(k:Nat):Tri dq Tryz.prog f (UB (F5 Δ ZO k) f):=by
 have:=qbV (dq:=dq) k f;unfold Rq at this;rw[h]at this;exact this
def A0:CC:=by refine(λ(_:G.rw_ Tryz.prog Tryz.f119 dT=?c)=>?c) ?h;case h=>conv=>lhs;reduce
def AS:List aj:=by refine(λ(_:((Tryz.f119.results.toList.mapM (am { Tryz.prog with cutTypes:= #[] })).getD [])=?c)=>?c) ?h;case h=>conv=>lhs;reduce
def qW:X.Fn:=⟨A0,AS,21⟩
def DD:CC:=by refine(λ(_:G.rw_ Tryz.prog Tryz.f71 dT=?c)=>?c) ?h;case h=>conv=>lhs;reduce
def Dy:List aj:=by refine(λ(_:((Tryz.f71.results.toList.mapM (am { Tryz.prog with cutTypes:= #[] })).getD [])=?c)=>?c) ?h;case h=>conv=>lhs;reduce
def uh:X.Fn:=⟨DD,Dy,28⟩
def A4:CC:=by refine(λ(_:G.rw_ Tryz.prog Tryz.f120 dT=?c)=>?c) ?h;case h=>conv=>lhs;reduce
def AW:List aj:=by refine(λ(_:((Tryz.f120.results.toList.mapM (am { Tryz.prog with cutTypes:= #[] })).getD [])=?c)=>?c) ?h;case h=>conv=>lhs;reduce
def qY:X.Fn:=⟨A4,AW,29⟩
def yU:CC:=by refine(λ(_:G.rw_ Tryz.prog Tryz.f121 dT=?c)=>?c) ?h;case h=>conv=>lhs;reduce
def yM:List aj:=by refine(λ(_:((Tryz.f121.results.toList.mapM (am { Tryz.prog with cutTypes:= #[] })).getD [])=?c)=>?c) ?h;case h=>conv=>lhs;reduce
def pV:X.Fn:=⟨yU,yM,25⟩
def HX:CC:=by refine(λ(_:G.rw_ Tryz.prog Tryz.f147 dT=?c)=>?c) ?h;case h=>conv=>lhs;reduce
def HM:List aj:=by refine(λ(_:((Tryz.f147.results.toList.mapM (am { Tryz.prog with cutTypes:= #[] })).getD [])=?c)=>?c) ?h;case h=>conv=>lhs;reduce
def HS:X.Fn:=⟨HX,HM,21⟩
def Ku:CC:=by refine(λ(_:G.rw_ Tryz.prog Tryz.f148 dT=?c)=>?c) ?h;case h=>conv=>lhs;reduce
def Km:List aj:=by refine(λ(_:((Tryz.f148.results.toList.mapM (am { Tryz.prog with cutTypes:= #[] })).getD [])=?c)=>?c) ?h;case h=>conv=>lhs;reduce
def Kq:X.Fn:=⟨Ku,Km,17⟩
open X
variable {dq:Prop}
def qkY:List (Nat×X.Fn):=[(fM,qW),(me,uh),(aN,qY),(bk,pV),(mH,HS),(sV,Kq),(mI,yQ),(mJ,yR)]
def qas:∀p∈qkY,qaS p:=bM (pM (by kernel_rfl)) <|bM (pM (by kernel_rfl)) <|bM (pM (by kernel_rfl)) <|bM (pM (by kernel_rfl)) <|bM (pM (by kernel_rfl)) <|bM (pM (by kernel_rfl)) <|bM (pM (by kernel_rfl)) <|bM (pM (by kernel_rfl)) <|qbT
noncomputable def Δ2(f:Nat):Option X.Fn:=qfS qkY f
def Ze(k f:Nat):Tri dq Tryz.prog f (Rq Δ2 ZO (Dl []) k f).pt:=
 OX (ag ae) (λk f args r h=>by cases h) (λf fn h=>qas _ (Jn _ _ _ h)) k f
def OQ{f:Nat}{fn:X.Fn}(h:Δ2 f=some fn)(k:Nat):Tri dq Tryz.prog f (UB (F5 Δ2 ZO k) f):=by
 have:=Ze (dq:=dq) k f;unfold Rq at this;rw[h]at this;exact this
noncomputable def qgb(f:Nat)(l:List D):Option (D×XH):=F5 Δ2 ZO 10000 f l ⟨.e, [], [],0⟩
def TU(b:Bool):Option (D×XH)->Bool
 | some (.v (.bool t),_)=>t==b
 | _=>false
def Z3(n:Int):Option (D×XH)->Bool
 | some (.v (.int .i64 a),_)=>decide (a=n)
 | _=>false
def Js{b:Bool}{r:Option (D×XH)}(h:TU b r=true):∃x,r=some (.v (.bool b),x):=by
 unfold TU at h;split at h
 ·rename_i t x;have:t=b:=by simpa using h
  subst this;exact⟨x,rfl⟩
 ·cases h
def Xp{n:Int}{r:Option (D×XH)}(h:Z3 n r=true):∃x,r=some (.v (.int .i64 n),x):=by
 unfold Z3 at h;split at h
 ·rename_i a x;simp only[decide_eq_true_eq]at h;subst h;exact⟨x,rfl⟩
 ·cases h
open Cod (enc dec)
abbrev s_rIsF:Spc:=aY (a1 B) (λx=>x∈FeatL) (enc (X:=Bool)) λ_ y=>y=true
abbrev s_rVName:Spc:=aY (a1 B) (λx=>x∈YF::Types) (enc (X:=Bool)) λ_ y=>y=true
abbrev s_rVVal:Spc:=aY (a1 B) (λx=>x∈E0::NumL) (enc (X:=Int)) λ_ y=>y=0
def Uu(s v:B):Bool:=s.data.toList.any λc=>decide (v.data.toList=[c])
abbrev s_rFeat:Spc:=aY (a2 B B) (λx=>x.1∈FsetL/\x.2∈FeatL) (enc (X:=Bool)) λx y=>y=Uu x.1 x.2
def qdA:(FeatL.all λv=>TU true (qgb fM [.v (.string v)]))=true:=by kernel_rfl
def qiM:((YF::Types).all λv=>TU true (qgb aN [.v (.string v)]))=true:=by kernel_rfl
def qiL:((E0::NumL).all λv=>Z3 0 (qgb bk [.v (.string v)]))=true:=by kernel_rfl
def qdB:(FsetL.all λs=>FeatL.all λv=>TU (Uu s v) (qgb me [.v (.string s), .v (.string v)]))=true:=by kernel_rfl
def IJ{ρ':VL}{x:Value}{r':D}(h:Rep ρ' (.v x) r'):FrzTo cw r' (.v x):=by cases h;exact .same _
def Zr:Tri dq Tryz.prog fM s_rIsF.pt:=by
 refine lp (OQ (fn:=qW) rfl 10000) λv hv=>⟨rfl,?_⟩
 obtain⟨x,h⟩:=Js (qmg.1 qdA v hv);exact⟨_,_,true,h,λρ r' hr=>IJ hr,rfl⟩
def Se:Tri dq Tryz.prog aN s_rVName.pt:=by
 refine lp (OQ (fn:=qY) rfl 10000) λv hv=>⟨rfl,?_⟩
 obtain⟨x,h⟩:=Js (qmg.1 qiM v hv);exact⟨_,_,true,h,λρ r' hr=>IJ hr,rfl⟩
def Wt:Tri dq Tryz.prog bk s_rVVal.pt:=by
 refine lp (OQ (fn:=pV) rfl 10000) λv hv=>⟨rfl,?_⟩
 obtain⟨x,h⟩:=Xp (qmg.1 qiL v hv);exact⟨_,_,(0:Int),h,λρ r' hr=>IJ hr,rfl⟩
def Wu:Tri dq Tryz.prog me s_rFeat.pt:=by
 refine lp (OQ (fn:=uh) rfl 10000) λx hx=>⟨rfl,?_⟩
 obtain⟨s,v⟩:=x;obtain⟨z,h⟩:=Js (qmg.1 (qmg.1 qdB s hx.1) v hx.2);exact⟨_,_,Uu s v,h,λρ r' hr=>IJ hr,rfl⟩
end Go.Gv
namespace Go.Gv
open Cod (enc dec)
variable {S S0:Nat->Spc}
abbrev s_rAttr:Spc:=aY (a2 (List Attr) B) (λ_=>True) (enc (X:=Int)) λx y=>y=dB x.1 x.2
theorem CA:av lM lz S (a2 (List Attr) B) (λ_=>True) (enc (X:=Int)) λx y=>y=dB x.1 x.2:=by
 rintro⟨l,s⟩ -;simp[lM,lz, -Bool.forall_bool, -Bool.exists_bool];intro _;refine ak (X:=Unit) [1,7] [] l.length (λk _=>∀x∈l.take k,decide (x.nm=s)=false) (λ_=>[]) (λ_=>[]) () (by simp) (by simp) (by omega) (by simp) (by simp) (by simp) (by simp) (by simp) ?_ ?_
 ·intro k _ hk hP;obtain⟨x,hx⟩:=bL hk;obtain⟨_,hgx⟩:=qmb.1 hx;simp[hk,hx,hgx, -Bool.forall_bool, -Bool.exists_bool];refine⟨λh=>?_,λh=>?_⟩
  ·exact(nU hx (by simp[h]) hP).symm
  ·rw[aK hx];intro z hz;rcases qml.1 hz with hz|hz
   ·have:=hP z hz;simpa using this
   ·simp at hz;subst hz;simpa using h
 ·intro _ hP;simp[-Bool.forall_bool, -Bool.exists_bool];exact(iy (by simpa using hP)).symm
abbrev s_rIn:Spc:=aY (a2 (List B) B) (λ_=>True) (enc (X:=Bool)) λx y=>y=gA x.1 x.2
theorem Kz:av wc vV S (a2 (List B) B) (λ_=>True) (enc (X:=Bool)) λx y=>y=gA x.1 x.2:=by
 rintro⟨l,s⟩ -;simp[wc,vV, -Bool.forall_bool, -Bool.exists_bool];intro _;refine ak (X:=Unit) [1,7] [] l.length (λk _=>∀x∈l.take k,¬x=s) (λ_=>[]) (λ_=>[]) () (by simp) (by simp) (by omega) (by simp) (by simp) (by simp) (by simp) (by simp) ?_ ?_
 ·intro k _ hk hP;obtain⟨x,hx⟩:=bL hk;obtain⟨_,hgx⟩:=qmb.1 hx;simp[hk,hx,hgx, -Bool.forall_bool, -Bool.exists_bool];refine⟨λh=>?_,λh=>?_⟩
  ·simp[gA];exact h ▸qme hx
  ·rw[aK hx];intro z hz;rcases qml.1 hz with hz|hz
   ·exact hP z hz
   ·simp at hz;subst hz;exact h
 ·intro _ hP;simp[-Bool.forall_bool, -Bool.exists_bool];simp[gA];exactλx hx=>hP x (by simpa using hx)
abbrev s_rShape:Spc:=aY (a1 Cond) (λx=>O0 x=true) (enc (X:=Bool)) λ_ y=>y=true
set_option maxHeartbeats 1000000 in
theorem KE:av da cX S (a1 Cond) (λx=>O0 x=true) (enc (X:=Bool)) λ_ y=>y=true:=by
 rintro⟨op,name,arg,val,lab,fold,ks⟩ hx;have hx:O0 ⟨op,name,arg,val,lab,fold,ks⟩=true:=hx;unfold O0 at hx;simp only at hx;split at hx
 ·rename_i e;subst e;simp at hx;obtain⟨⟨rfl,rfl,rfl,rfl,rfl⟩,rfl⟩:=hx;simp[da,cX,dm, -Bool.forall_bool, -Bool.exists_bool]
 split at hx
 ·rename_i e;subst e;simp at hx;obtain⟨⟨rfl,rfl⟩,rfl⟩:=hx;simp[da,cX,dm, -Bool.forall_bool, -Bool.exists_bool]
 split at hx
 ·rename_i e;subst e;simp at hx;obtain⟨⟨rfl,rfl,rfl⟩,rfl⟩:=hx;simp[da,cX,dm, -Bool.forall_bool, -Bool.exists_bool]
 split at hx
 ·rename_i e;subst e;simp at hx;obtain⟨⟨rfl,rfl⟩,rfl⟩:=hx;simp[da,cX,dm, -Bool.forall_bool, -Bool.exists_bool]
 split at hx
 ·rename_i e;subst e;simp at hx;obtain⟨⟨rfl,rfl,hav⟩,rfl⟩:=hx;by_cases ha:arg=dm
  ·have hv:=hav.resolve_left λh=>h ha
   subst ha;subst hv;simp[da,cX,dm, -Bool.forall_bool, -Bool.exists_bool]
  ·have ha':¬arg=⟨#[]⟩:=ha;simp[da,cX,dm,ha', -Bool.forall_bool, -Bool.exists_bool]
 split at hx
 ·rename_i e;subst e;simp at hx;obtain⟨⟨rfl,rfl,rfl,rfl,rfl⟩,hk⟩:=hx;simp[da,cX,dm,hk, -Bool.forall_bool, -Bool.exists_bool]
 split at hx
 ·rename_i e;simp at hx;obtain⟨⟨rfl,rfl,rfl,rfl,rfl⟩,hk1,hk2⟩:=hx;have q1:(2:Int)<=(ks.length:Int):=by omega
  have q2:(ks.length:Int)<=60:=by omega
  have q2':(ks.length:Int)<=1000:=by omega
  have q3:(ks.length:Int)<=9223372036854775807:=by omega
  rcases e with rfl|rfl <;> simp[da,cX,dm,q1,q2,q2',q3, -Bool.forall_bool, -Bool.exists_bool]
 ·cases hx
end Go.Gv
namespace Go.Gv
open Go.Proofs X
variable {dq:Prop}
def qkE(b:Bool):Option (D×XH)->Bool
 | some (.v (.bool t),_)=>t==b
 | _=>false
def WT:List B:=vM++FA
noncomputable def mP(v w:B)(f:Bool):Bool:=match(kj v).bind λx=>sH x w f with
 | some b=>qkE b (F5 Δ ZO 10000 mc [.v (.string v), .v (.string w), .v (.bool f)] ⟨.e, [], [],0⟩)
 | none=>false
noncomputable def Aj(v:B):Bool:=WT.all λw=>mP v w false && mP v w true
end Go.Gv
namespace Go.Gv
open Cod (enc dec)
abbrev s_rMatches:Spc:=aY (a3 B B Bool) (λx=>x.1∈ValsI/\x.2.1∈WT) (enc (X:=Bool)) λx y=>((kj x.1).bind λz=>sH z x.2.1 x.2.2)=some y
abbrev s_rParse0:Spc:=aY (a1 B) (λx=>x∈ValsI) (λ_:Unit=>D.tup [.agg [.any, .any, .any, .any, .any], .v (.int .i64 0), .v (.int .i64 0)]) λ_ _=>True
def qcY:Option (D×X.XH)->Bool
 | some (.tup [.agg [_,_,_,_,_], .v (.int .i64 a), .v (.int .i64 b)],_)=>decide (a=0) && decide (b=0)
 | _=>false
variable {S S0:Nat->Spc}
def qfm(x:Cond):Prop:=(x.op=2->x.val∈ValsI/\(x.name=dm\/x.name∈Attr2))/\(x.op=3->x.val∈FeatL/\x.name=xG)/\(x.op=4->x.name∈Attr2/\x.arg∈Attr2)/\(x.op=5->x.name∈YF::Types/\(x.arg=dm\/x.arg∈YF::Types)/\x.val∈E0::NumL)
def qaX(x:Cond×List Attr×List B):Prop:=iL x.2.1 x.2.2 x.1=true/\qfm x.1/\x.2.1.length<=1000
abbrev s_rnode:Spc:=aY (a3 Cond (List Attr) (List B)) qaX (enc (X:=Int)) λ_ y=>y=0
theorem M8(h1:S qe=s_rShape)(h2:S fN=s_rAttr)(h3:S mG=s_rParse0)(h4:S fM=s_rIsF)(h5:S mC=s_rIn)(h6:S aN=s_rVName)(h7:S bk=s_rVVal):
 av eq ef S (a3 Cond (List Attr) (List B)) qaX (enc (X:=Int)) λ_ y=>y=0:=by
 rintro⟨x,a,lb⟩ ⟨hx,hr,hl⟩;have hx:iL a lb x=true:=hx;have hl:a.length<=1000:=hl;unfold iL at hx;simp only[qmf]at hx;obtain⟨⟨hs,hn⟩,hc⟩:=hx;obtain⟨op,name,arg,val,lab,fold,ks⟩:=x;obtain⟨r2,r3,r4,r5⟩:=hr;simp only at r2 r3 r5;have hrg:=(Ak (λx:Attr=>decide (x.nm=name)) a).2;have hlt:dB a name < a.length:=hrg;have hl':(a.length:Int)<=9223372036854775807:=by omega
 unfold qee at hc;unfold Xc at hn;simp only at hc hn;split at hc
 ·rename_i e;subst e;simp only[if_true,decide_eq_true_eq]at hn;have hv:=(r2 rfl).1;unfold lF at hn;have hl0:¬a=[]:=λe=>by
   subst e;simp[dB,ln]at hn;split at hn <;> omega
  have hl1:0 < (a.length:Int):=by
   have:=List.length_pos_iff.2 hl0;omega
  have hl2:¬ (a.length:Int)=0:=by omega
  by_cases hne:name=dm
  ·subst hne;have hE:dm=⟨#[]⟩:=rfl;have hs':O0 ⟨2,⟨#[]⟩,arg,val,lab,fold,ks⟩=true:=hs;simp[eq,ef,h1,h2,h3,hs',hl',hl0,hl1,hl2,hv,hE, -Bool.forall_bool, -Bool.exists_bool]
  ·have hne':¬name=⟨#[]⟩:=hne;rw[if_neg hne]at hn;have ha:¬dB a name= -1:=by omega
   simp[eq,ef,h1,h2,h3,hs,hl',hl0,hl1,hl2,hne',ha,hv, -Bool.forall_bool, -Bool.exists_bool]
 rename_i e2;split at hc
 ·rename_i e;subst e;simp at hn;simp only[qmf]at hc;obtain⟨⟨⟨c1,c2⟩,c3⟩,c4⟩:=hc;obtain⟨b,hb⟩:=bL (show(dB a name).toNat < a.length by omega);obtain⟨_,hgb⟩:=qmb.1 hb;rw[hb]at c1;have c1:b.st=true:=c1;have hv:=(r3 rfl).1;have ha:¬dB a name= -1:=by omega
  simp[eq,ef,h1,h2,h4,hs,hn,hl',hlt,ha,hb,hgb,c1,hv, -Bool.forall_bool, -Bool.exists_bool]
 rename_i e3;split at hc
 ·rename_i e;subst e;simp at hn;have ha:¬dB a name= -1:=by omega
  have ha2:¬dB a arg= -1:=by omega
  have hc:gA lb lab=true:=hc;simp[eq,ef,h1,h2,h5,hs,hc,ha,ha2, -Bool.forall_bool, -Bool.exists_bool]
 rename_i e4;split at hc
 ·rename_i e;subst e;obtain⟨v1,v2,v3⟩:=r5 rfl;rcases v2 with v2|v2
  ·subst v2;have hs':O0 ⟨5,name,⟨#[]⟩,val,lab,fold,ks⟩=true:=hs;simp[eq,ef,dm,h1,h2,h6,h7,hs',v1,v3, -Bool.forall_bool, -Bool.exists_bool]
  ·simp[eq,ef,h1,h2,h6,h7,hs,v1,v2,v3, -Bool.forall_bool, -Bool.exists_bool]
 rename_i e5;simp[eq,ef,h1,h2,hs,e2,e3,e4,e5, -Bool.forall_bool, -Bool.exists_bool]
def WU(a:List Attr)(lb:List B):Nat->Cond->Prop
 | 0=>λ_=>False
 | n+1=>λx=>iL a lb x=true/\qfm x/\∀k∈x.kids,WU a lb n k
def Vx(n:Nat)(x:Cond×List Attr×List B):Prop:=WU x.2.1 x.2.2 n x.1/\x.2.1.length<=1000
abbrev Lo(n:Nat):Spc:=aY (a3 Cond (List Attr) (List B)) (Vx n) (enc (X:=Int)) λ_ y=>y=0
def KB(n:Nat)(h1:S yq=s_rnode)(h2:S mE=Lo n):
 av ta rV S (a3 Cond (List Attr) (List B)) (Vx (n+1)) (enc (X:=Int)) λ_ y=>y=0:=by
 rintro⟨x,a,lb⟩ ⟨⟨hx,hr,hk⟩,hl⟩;simp only at hx hr hk hl;have hp0:qaX (x,a,lb):=⟨hx,hr,hl⟩
 simp[ta,rV,h1,hp0];intro hkl;refine ak (X:=Unit) [1,2,19] [] x.kids.length (λ_ _=>True) (λ_=>[]) (λ_=>[]) () (by simp) (by simp) (by omega) (by simp) (by simp) (by simp) (by simp) (by simp) ?_ ?_
 ·intro k _ hkk _;obtain⟨y,hy⟩:=bL hkk;obtain⟨_,hgy⟩:=qmb.1 hy;have hp:Vx n (y,a,lb):=⟨hk y (qme hy),hl⟩
  simp[h2,hkk,hy,hgy,hp]
 ·intro _ _;simp
def Vz(n:Nat)(x:Cond×Int):Prop:=aA x.1<=n/\0<=x.2/\x.2+aA x.1<=61/\aJ x.1<=60
abbrev Lq(n:Nat):Spc:=aY (a2 Cond Int) (Vz n) (rN (Y:=Int) (Z:=Int)) λx y=>y=((aJ x.1:Int),(aA x.1:Int))
theorem KC(n:Nat)(h1:S mF=Lq n):av tb rW S (a2 Cond Int) (Vz (n+1)) (rN (Y:=Int) (Z:=Int)) λx y=>y=((aJ x.1:Int),(aA x.1:Int)):=by
 rintro⟨x,deep⟩ ⟨hn,h0,h2,h3⟩;simp only at hn h0 h2 h3;have hd1:=tD x;have hn1:=ej x;have hdp:¬60 < deep:=by omega
 simp[tb,rW,hdp];intro hkl;refine ak (X:=Int×Int) [1,15] [] x.kids.length (λk z=>z.1=1+ (cv (x.kids.take k):Int)/\z.2=(eA (x.kids.take k):Int)) (λz=>[(6,enc z.1),(7,enc z.2)]) (λ_=>[]) (1,0) (by simp) (by simp) (by omega) (by simp) (by simp) (by simp[cv,eA]) (by simp) (by simp) ?_ ?_
 ·rintro k ⟨m,d⟩ hk ⟨e1,e2⟩;simp only at e1 e2;obtain⟨y,hy⟩:=bL hk;obtain⟨_,hgy⟩:=qmb.1 hy;have hm:=BE hy;have hd:=rG (qme hy);have hp:Vz n (y,deep+1):=⟨by show aA y<=n;omega,by show 0<=deep+1;omega,by show deep+1+aA y<=61;omega,by show aJ y<=60;omega⟩
  have hm60:¬60 < m+ (aJ y:Int):=by omega
  have i1:InR .i64 (deep+1):=by simp only[InR];omega
  have i2:InR .i64 (m+ (aJ y:Int)):=by simp only[InR];omega
  simp[h1,hk,hy,hgy,hp,hm60,i1,i2];exactλ_=>⟨by omega,by rw[hm.2.1,e2];omega⟩
 ·rintro⟨m,d⟩ ⟨e1,e2⟩;simp only at e1 e2;rw[qmJ]at e1 e2;have i1:InR .i64 (d+1):=by simp only[InR];omega
  simp[i1];exact⟨by omega,by omega⟩
abbrev s_rcountA:Spc:=aY (a2 Cond Int) (λx=>∃n,Vz n x) (rN (Y:=Int) (Z:=Int)) λx y=>y=((aJ x.1:Int),(aA x.1:Int))
abbrev s_rNodes:Spc:=aY (a1 Cond) (λx=>aJ x<=60/\aA x<=20) (rN (Y:=Int) (Z:=Int)) λx y=>y=((aJ x:Int),(aA x:Int))
def KG(h1:S mF=s_rcountA):av td rY S (a1 Cond) (λx=>aJ x<=60/\aA x<=20) (rN (Y:=Int) (Z:=Int)) λx y=>y=((aJ x:Int),(aA x:Int)):=by
 rintro x ⟨hn,hd⟩;have hp:∃n,Vz n (x,0):=⟨20,hd,qnR _,by show(0:Int) +aA x<=61;omega,hn⟩
 simp[td,rY,h1,hp]
abbrev s_rfirstA:Spc:=aY (a3 Cond (List Attr) (List B)) (λx=>∃n,Vx n x) (enc (X:=Int)) λ_ y=>y=0
def Yq(x:Cond×List Attr×List B):Prop:=aJ x.1<=60/\aA x.1<=20/\∃n,Vx n x
abbrev s_rVal:Spc:=aY (a3 Cond (List Attr) (List B)) Yq (enc (X:=Int)) λ_ y=>y=0
def DK(h1:S jK=s_rNodes)(h2:S mE=s_rfirstA):av ni mR S (a3 Cond (List Attr) (List B)) Yq (enc (X:=Int)) λ_ y=>y=0:=by
 rintro⟨x,a,lb⟩ ⟨hn,hd,hp⟩;simp only at hn hd;have q1:¬60 < (aJ x:Int):=by omega
 have q2:¬20 < (aA x:Int):=by omega
 simp[ni,mR,h1,h2,hn,hd,hp,q1,q2, -Bool.forall_bool, -Bool.exists_bool, -exists_and_left, -exists_and_right]
end Go.Gv
