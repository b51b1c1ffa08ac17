/- A part of the framework and of the walks: X1 X2 X9 W210 X3 Xs W211. -/
import Derived.Test.YtfbleenmepoodaaGreatDoorGa40
import Derived.Test.YtfbleenmepoodaaGreatDoorGa37
set_option linter.unusedSimpArgs false
set_option linter.unusedVariables false
set_option linter.unusedSectionVars false
set_option linter.defProp false
set_option maxRecDepth 100000
set_option maxHeartbeats 0
namespace Go.Gv
open Go.Proofs
def dI:List Nat:=(List.range 200).map (· +100000)
def A4:CC:=by refine(λ(_:G.rw_ Tryz.prog Tryz.f189 dI=?c)=>?c) ?h;case h=>conv=>lhs;reduce
def AY:List ai:=by refine(λ(_:((Tryz.f189.results.toList.mapM (ak { Tryz.prog with cutTypes:= #[] })).getD [])=?c)=>?c) ?h;case h=>conv=>lhs;reduce
def A1:X.Fn:=⟨A4,AY,48⟩
def F5:CC:=by refine(λ(_:G.rw_ Tryz.prog Tryz.f122 dI=?c)=>?c) ?h;case h=>conv=>lhs;reduce
def FU:List ai:=by refine(λ(_:((Tryz.f122.results.toList.mapM (ak { Tryz.prog with cutTypes:= #[] })).getD [])=?c)=>?c) ?h;case h=>conv=>lhs;reduce
def xf:X.Fn:=⟨F5,FU,81⟩
def F4:CC:=by refine(λ(_:G.rw_ Tryz.prog Tryz.f149 dI=?c)=>?c) ?h;case h=>conv=>lhs;reduce
def FT:List ai:=by refine(λ(_:((Tryz.f149.results.toList.mapM (ak { Tryz.prog with cutTypes:= #[] })).getD [])=?c)=>?c) ?h;case h=>conv=>lhs;reduce
def xe:X.Fn:=⟨F4,FT,16⟩
def F2:CC:=by refine(λ(_:G.rw_ Tryz.prog Tryz.f97 dI=?c)=>?c) ?h;case h=>conv=>lhs;reduce
def FR:List ai:=by refine(λ(_:((Tryz.f97.results.toList.mapM (ak { Tryz.prog with cutTypes:= #[] })).getD [])=?c)=>?c) ?h;case h=>conv=>lhs;reduce
def FX:X.Fn:=⟨F2,FR,8⟩
def zA:CC:=by refine(λ(_:G.rw_ Tryz.prog Tryz.f96 dI=?c)=>?c) ?h;case h=>conv=>lhs;reduce
def zq:List ai:=by refine(λ(_:((Tryz.f96.results.toList.mapM (ak { Tryz.prog with cutTypes:= #[] })).getD [])=?c)=>?c) ?h;case h=>conv=>lhs;reduce
def zw:X.Fn:=⟨zA,zq,8⟩
def D3:CC:=by refine(λ(_:G.rw_ Tryz.prog Tryz.f208 dI=?c)=>?c) ?h;case h=>conv=>lhs;reduce
def DZ:List ai:=by refine(λ(_:((Tryz.f208.results.toList.mapM (ak { Tryz.prog with cutTypes:= #[] })).getD [])=?c)=>?c) ?h;case h=>conv=>lhs;reduce
def D1:X.Fn:=⟨D3,DZ,38⟩
def zz:CC:=by refine(λ(_:G.rw_ Tryz.prog Tryz.f207 dI=?c)=>?c) ?h;case h=>conv=>lhs;reduce
def zo:List ai:=by refine(λ(_:((Tryz.f207.results.toList.mapM (ak { Tryz.prog with cutTypes:= #[] })).getD [])=?c)=>?c) ?h;case h=>conv=>lhs;reduce
def zu:X.Fn:=⟨zz,zo,70⟩
def F1:CC:=by refine(λ(_:G.rw_ Tryz.prog Tryz.f95 dI=?c)=>?c) ?h;case h=>conv=>lhs;reduce
def FQ:List ai:=by refine(λ(_:((Tryz.f95.results.toList.mapM (ak { Tryz.prog with cutTypes:= #[] })).getD [])=?c)=>?c) ?h;case h=>conv=>lhs;reduce
def xc:X.Fn:=⟨F1,FQ,73⟩
def D2:CC:=by refine(λ(_:G.rw_ Tryz.prog Tryz.f170 dI=?c)=>?c) ?h;case h=>conv=>lhs;reduce
def DY:List ai:=by refine(λ(_:((Tryz.f170.results.toList.mapM (ak { Tryz.prog with cutTypes:= #[] })).getD [])=?c)=>?c) ?h;case h=>conv=>lhs;reduce
def D0:X.Fn:=⟨D2,DY,47⟩
def A3:CC:=by refine(λ(_:G.rw_ Tryz.prog Tryz.f125 dI=?c)=>?c) ?h;case h=>conv=>lhs;reduce
def AX:List ai:=by refine(λ(_:((Tryz.f125.results.toList.mapM (ak { Tryz.prog with cutTypes:= #[] })).getD [])=?c)=>?c) ?h;case h=>conv=>lhs;reduce
def A0:X.Fn:=⟨A3,AX,26⟩
def A2:CC:=by refine(λ(_:G.rw_ Tryz.prog Tryz.f172 dI=?c)=>?c) ?h;case h=>conv=>lhs;reduce
def AW:List ai:=by refine(λ(_:((Tryz.f172.results.toList.mapM (ak { Tryz.prog with cutTypes:= #[] })).getD [])=?c)=>?c) ?h;case h=>conv=>lhs;reduce
def AZ:X.Fn:=⟨A2,AW,61⟩
def Io:CC:=by refine(λ(_:G.rw_ Tryz.prog Tryz.f156 dI=?c)=>?c) ?h;case h=>conv=>lhs;reduce
def Ig:List ai:=by refine(λ(_:((Tryz.f156.results.toList.mapM (ak { Tryz.prog with cutTypes:= #[] })).getD [])=?c)=>?c) ?h;case h=>conv=>lhs;reduce
def Ik:X.Fn:=⟨Io,Ig,168⟩
def In:CC:=by refine(λ(_:G.rw_ Tryz.prog Tryz.f174 dI=?c)=>?c) ?h;case h=>conv=>lhs;reduce
def If:List ai:=by refine(λ(_:((Tryz.f174.results.toList.mapM (ak { Tryz.prog with cutTypes:= #[] })).getD [])=?c)=>?c) ?h;case h=>conv=>lhs;reduce
def Ij:X.Fn:=⟨In,If,20⟩
def N4:CC:=by refine(λ(_:G.rw_ Tryz.prog Tryz.f209 dI=?c)=>?c) ?h;case h=>conv=>lhs;reduce
def N0:List ai:=by refine(λ(_:((Tryz.f209.results.toList.mapM (ak { Tryz.prog with cutTypes:= #[] })).getD [])=?c)=>?c) ?h;case h=>conv=>lhs;reduce
def N2:X.Fn:=⟨N4,N0,15⟩
def F0:CC:=by refine(λ(_:G.rw_ Tryz.prog Tryz.f126 dI=?c)=>?c) ?h;case h=>conv=>lhs;reduce
def FP:List ai:=by refine(λ(_:((Tryz.f126.results.toList.mapM (ak { Tryz.prog with cutTypes:= #[] })).getD [])=?c)=>?c) ?h;case h=>conv=>lhs;reduce
def FW:X.Fn:=⟨F0,FP,27⟩
def B3:CC:=by refine(λ(_:G.rw_ Tryz.prog Tryz.f171 dI=?c)=>?c) ?h;case h=>conv=>lhs;reduce
def BY:List ai:=by refine(λ(_:((Tryz.f171.results.toList.mapM (ak { Tryz.prog with cutTypes:= #[] })).getD [])=?c)=>?c) ?h;case h=>conv=>lhs;reduce
def BZ:X.Fn:=⟨B3,BY,22⟩
def N3:CC:=by refine(λ(_:G.rw_ Tryz.prog Tryz.f176 dI=?c)=>?c) ?h;case h=>conv=>lhs;reduce
def NZ:List ai:=by refine(λ(_:((Tryz.f176.results.toList.mapM (ak { Tryz.prog with cutTypes:= #[] })).getD [])=?c)=>?c) ?h;case h=>conv=>lhs;reduce
def N1:X.Fn:=⟨N3,NZ,20⟩
def xh:CC:=by refine(λ(_:G.rw_ Tryz.prog Tryz.f173 dI=?c)=>?c) ?h;case h=>conv=>lhs;reduce
def wY:List ai:=by refine(λ(_:((Tryz.f173.results.toList.mapM (ak { Tryz.prog with cutTypes:= #[] })).getD [])=?c)=>?c) ?h;case h=>conv=>lhs;reduce
def xb:X.Fn:=⟨xh,wY,15⟩
def xg:CC:=by refine(λ(_:G.rw_ Tryz.prog Tryz.f157 dI=?c)=>?c) ?h;case h=>conv=>lhs;reduce
def wX:List ai:=by refine(λ(_:((Tryz.f157.results.toList.mapM (ak { Tryz.prog with cutTypes:= #[] })).getD [])=?c)=>?c) ?h;case h=>conv=>lhs;reduce
def xa:X.Fn:=⟨xg,wX,16⟩
def vN:CC:=by refine(λ(_:G.rw_ Tryz.prog Tryz.f177 dI=?c)=>?c) ?h;case h=>conv=>lhs;reduce
def vD:List ai:=by refine(λ(_:((Tryz.f177.results.toList.mapM (ak { Tryz.prog with cutTypes:= #[] })).getD [])=?c)=>?c) ?h;case h=>conv=>lhs;reduce
def vI:X.Fn:=⟨vN,vD,21⟩
def zy:CC:=by refine(λ(_:G.rw_ Tryz.prog Tryz.f155 dI=?c)=>?c) ?h;case h=>conv=>lhs;reduce
def zn:List ai:=by refine(λ(_:((Tryz.f155.results.toList.mapM (ak { Tryz.prog with cutTypes:= #[] })).getD [])=?c)=>?c) ?h;case h=>conv=>lhs;reduce
def zt:X.Fn:=⟨zy,zn,39⟩
def vM:CC:=by refine(λ(_:G.rw_ Tryz.prog Tryz.f186 dI=?c)=>?c) ?h;case h=>conv=>lhs;reduce
def vC:List ai:=by refine(λ(_:((Tryz.f186.results.toList.mapM (ak { Tryz.prog with cutTypes:= #[] })).getD [])=?c)=>?c) ?h;case h=>conv=>lhs;reduce
def vH:X.Fn:=⟨vM,vC,44⟩
def qe:CC:=by refine(λ(_:G.rw_ Tryz.prog Tryz.f199 dI=?c)=>?c) ?h;case h=>conv=>lhs;reduce
def qa:List ai:=by refine(λ(_:((Tryz.f199.results.toList.mapM (ak { Tryz.prog with cutTypes:= #[] })).getD [])=?c)=>?c) ?h;case h=>conv=>lhs;reduce
def qc:X.Fn:=⟨qe,qa,50⟩
def uU:CC:=by refine(λ(_:G.rw_ Tryz.prog Tryz.f198 dI=?c)=>?c) ?h;case h=>conv=>lhs;reduce
def uL:List ai:=by refine(λ(_:((Tryz.f198.results.toList.mapM (ak { Tryz.prog with cutTypes:= #[] })).getD [])=?c)=>?c) ?h;case h=>conv=>lhs;reduce
def uQ:X.Fn:=⟨uU,uL,103⟩
def sX:CC:=by refine(λ(_:G.rw_ Tryz.prog Tryz.f150 dI=?c)=>?c) ?h;case h=>conv=>lhs;reduce
def sM:List ai:=by refine(λ(_:((Tryz.f150.results.toList.mapM (ak { Tryz.prog with cutTypes:= #[] })).getD [])=?c)=>?c) ?h;case h=>conv=>lhs;reduce
def sT:X.Fn:=⟨sX,sM,65⟩
def uT:CC:=by refine(λ(_:G.rw_ Tryz.prog Tryz.f200 dI=?c)=>?c) ?h;case h=>conv=>lhs;reduce
def uK:List ai:=by refine(λ(_:((Tryz.f200.results.toList.mapM (ak { Tryz.prog with cutTypes:= #[] })).getD [])=?c)=>?c) ?h;case h=>conv=>lhs;reduce
def uP:X.Fn:=⟨uT,uK,22⟩
def vL:CC:=by refine(λ(_:G.rw_ Tryz.prog Tryz.f152 dI=?c)=>?c) ?h;case h=>conv=>lhs;reduce
def vB:List ai:=by refine(λ(_:((Tryz.f152.results.toList.mapM (ak { Tryz.prog with cutTypes:= #[] })).getD [])=?c)=>?c) ?h;case h=>conv=>lhs;reduce
def vG:X.Fn:=⟨vL,vB,22⟩
def vK:CC:=by refine(λ(_:G.rw_ Tryz.prog Tryz.f151 dI=?c)=>?c) ?h;case h=>conv=>lhs;reduce
def vA:List ai:=by refine(λ(_:((Tryz.f151.results.toList.mapM (ak { Tryz.prog with cutTypes:= #[] })).getD [])=?c)=>?c) ?h;case h=>conv=>lhs;reduce
def vF:X.Fn:=⟨vK,vA,30⟩
def sW:CC:=by refine(λ(_:G.rw_ Tryz.prog Tryz.f187 dI=?c)=>?c) ?h;case h=>conv=>lhs;reduce
def sL:List ai:=by refine(λ(_:((Tryz.f187.results.toList.mapM (ak { Tryz.prog with cutTypes:= #[] })).getD [])=?c)=>?c) ?h;case h=>conv=>lhs;reduce
def sS:X.Fn:=⟨sW,sL,46⟩
def uS:CC:=by refine(λ(_:G.rw_ Tryz.prog Tryz.f153 dI=?c)=>?c) ?h;case h=>conv=>lhs;reduce
def uJ:List ai:=by refine(λ(_:((Tryz.f153.results.toList.mapM (ak { Tryz.prog with cutTypes:= #[] })).getD [])=?c)=>?c) ?h;case h=>conv=>lhs;reduce
def uN:X.Fn:=⟨uS,uJ,25⟩
def sV:CC:=by refine(λ(_:G.rw_ Tryz.prog Tryz.f169 dI=?c)=>?c) ?h;case h=>conv=>lhs;reduce
def sK:List ai:=by refine(λ(_:((Tryz.f169.results.toList.mapM (ak { Tryz.prog with cutTypes:= #[] })).getD [])=?c)=>?c) ?h;case h=>conv=>lhs;reduce
def sR:X.Fn:=⟨sV,sK,86⟩
def sU:CC:=by refine(λ(_:G.rw_ Tryz.prog Tryz.f124 dI=?c)=>?c) ?h;case h=>conv=>lhs;reduce
def sJ:List ai:=by refine(λ(_:((Tryz.f124.results.toList.mapM (ak { Tryz.prog with cutTypes:= #[] })).getD [])=?c)=>?c) ?h;case h=>conv=>lhs;reduce
def sQ:X.Fn:=⟨sU,sJ,10⟩
def uR:CC:=by refine(λ(_:G.rw_ Tryz.prog Tryz.f123 dI=?c)=>?c) ?h;case h=>conv=>lhs;reduce
def uI:List ai:=by refine(λ(_:((Tryz.f123.results.toList.mapM (ak { Tryz.prog with cutTypes:= #[] })).getD [])=?c)=>?c) ?h;case h=>conv=>lhs;reduce
def uM:X.Fn:=⟨uR,uI,55⟩
def vJ:CC:=by refine(λ(_:G.rw_ Tryz.prog Tryz.f188 dI=?c)=>?c) ?h;case h=>conv=>lhs;reduce
def vz:List ai:=by refine(λ(_:((Tryz.f188.results.toList.mapM (ak { Tryz.prog with cutTypes:= #[] })).getD [])=?c)=>?c) ?h;case h=>conv=>lhs;reduce
def vE:X.Fn:=⟨vJ,vz,17⟩
def FZ:CC:=by refine(λ(_:G.rw_ Tryz.prog Tryz.f154 dI=?c)=>?c) ?h;case h=>conv=>lhs;reduce
def FO:List ai:=by refine(λ(_:((Tryz.f154.results.toList.mapM (ak { Tryz.prog with cutTypes:= #[] })).getD [])=?c)=>?c) ?h;case h=>conv=>lhs;reduce
def FV:X.Fn:=⟨FZ,FO,164⟩
def Im:CC:=by refine(λ(_:G.rw_ Tryz.prog Tryz.f175 dI=?c)=>?c) ?h;case h=>conv=>lhs;reduce
def Ie:List ai:=by refine(λ(_:((Tryz.f175.results.toList.mapM (ak { Tryz.prog with cutTypes:= #[] })).getD [])=?c)=>?c) ?h;case h=>conv=>lhs;reduce
def Ii:X.Fn:=⟨Im,Ie,40⟩
def B1:CC:=by refine(λ(_:G.rw_ Tryz.prog Tryz.f70 dI=?c)=>?c) ?h;case h=>conv=>lhs;reduce
def BW:List ai:=by refine(λ(_:((Tryz.f70.results.toList.mapM (ak { Tryz.prog with cutTypes:= #[] })).getD [])=?c)=>?c) ?h;case h=>conv=>lhs;reduce
def sO:X.Fn:=⟨B1,BW,25⟩
open Go.Proofs X
variable {dq:Prop}
def Yt(p:Nat×X.Fn):Prop:=∃im,aq Tryz.prog p.1 im (wN p.2.cc) p.2.rs p.2.N
def ou {f N : Nat} {cc : CC} {rs : List ai} (h : ((Tryz.prog.funcs[f]?).bind fun g => if g.name == "runtime.NumGoroutine" then none else g.body.bind fun c => (aw Tryz.prog dI g.ntmps c).bind fun cc => (g.results.toList.mapM (ak Tryz.prog)).bind fun rs => some (g.ntmps, cc, rs)) = some (N, aY (wN cc), rs)) : Yt (f, ⟨cc, rs, N⟩) := ⟨dI, Wc mixed h⟩
def Zx:∀p∈ ([]:List (Nat×X.Fn)),Yt p:=λp h=>by cases h
def bE{p:Nat×X.Fn}{l:List (Nat×X.Fn)}(h:Yt p)(hl:∀p∈l,Yt p):∀q∈p::l,Yt q:=λq hq=>by
 rcases qjW.1 hq with rfl|hq
 ·exact h
 ·exact hl q hq
def dl:List (Nat×X.Fn):=[(Dt,A1),(lJ,xf),(lI,xe),(Kg,FX),(By,zw),(HA,D1),(Bw,zu),(lG,xc),(Hz,D0),(Ds,A0),(Dr,AZ),(Mi,Ik),(Mh,Ij),(RU,N2),(Kf,FW),(EB,BZ),(RT,N1),(Am,xb),(Al,xa),(yL,vI),(Bv,zt),(yK,vH),(rz,qc),(wK,uQ),(vj,sT),(wJ,uP),(yJ,vG),(yI,vF),(vi,sS),(wI,uN),(vh,sR),(vg,sQ),(wH,uM),(yH,vE),(Ke,FV),(Mg,Ii),(lj,sO)]
theorem qbD:∀p∈dl,Yt p:=bE (ou (by kernel_rfl)) <|bE (ou (by kernel_rfl)) <|bE (ou (by kernel_rfl)) <|bE (ou (by kernel_rfl)) <|bE (ou (by kernel_rfl)) <|bE (ou (by kernel_rfl)) <|bE (ou (by kernel_rfl)) <|bE (ou (by kernel_rfl)) <|bE (ou (by kernel_rfl)) <|bE (ou (by kernel_rfl)) <|bE (ou (by kernel_rfl)) <|bE (ou (by kernel_rfl)) <|bE (ou (by kernel_rfl)) <|bE (ou (by kernel_rfl)) <|bE (ou (by kernel_rfl)) <|bE (ou (by kernel_rfl)) <|bE (ou (by kernel_rfl)) <|bE (ou (by kernel_rfl)) <|bE (ou (by kernel_rfl)) <|bE (ou (by kernel_rfl)) <|bE (ou (by kernel_rfl)) <|bE (ou (by kernel_rfl)) <|bE (ou (by kernel_rfl)) <|bE (ou (by kernel_rfl)) <|bE (ou (by kernel_rfl)) <|bE (ou (by kernel_rfl)) <|bE (ou (by kernel_rfl)) <|bE (ou (by kernel_rfl)) <|bE (ou (by kernel_rfl)) <|bE (ou (by kernel_rfl)) <|bE (ou (by kernel_rfl)) <|bE (ou (by kernel_rfl)) <|bE (ou (by kernel_rfl)) <|bE (ou (by kernel_rfl)) <|bE (ou (by kernel_rfl)) <|bE (ou (by kernel_rfl)) <|bE (ou (by kernel_rfl)) <|Zx
noncomputable def Δ(f:Nat):Option X.Fn:=qdv dl f
def WZ:PF:=λ_ _=>none
def Zz(k f:Nat):Tri dq Tryz.prog f (Pe Δ WZ (DW []) k f).pt:=
 MP (ag ae) (λk f args r h=>by cases h) (λf fn h=>qbD _ (He _ _ _ h)) k f
def Zy{f:Nat}{fn:X.Fn}(h:Δ f=some fn)(k:Nat):Tri dq Tryz.prog f (RY (En Δ WZ k) f):=by
 have:=Zz (dq:=dq) k f;unfold Pe at this;rw[h]at this;exact this
def zx:CC:=by refine(λ(_:G.rw_ Tryz.prog Tryz.f119 dI=?c)=>?c) ?h;case h=>conv=>lhs;reduce
def zl:List ai:=by refine(λ(_:((Tryz.f119.results.toList.mapM (ak { Tryz.prog with cutTypes:= #[] })).getD [])=?c)=>?c) ?h;case h=>conv=>lhs;reduce
def qb:X.Fn:=⟨zx,zl,21⟩
def B2:CC:=by refine(λ(_:G.rw_ Tryz.prog Tryz.f71 dI=?c)=>?c) ?h;case h=>conv=>lhs;reduce
def BX:List ai:=by refine(λ(_:((Tryz.f71.results.toList.mapM (ak { Tryz.prog with cutTypes:= #[] })).getD [])=?c)=>?c) ?h;case h=>conv=>lhs;reduce
def sP:X.Fn:=⟨B2,BX,28⟩
def zB:CC:=by refine(λ(_:G.rw_ Tryz.prog Tryz.f120 dI=?c)=>?c) ?h;case h=>conv=>lhs;reduce
def zr:List ai:=by refine(λ(_:((Tryz.f120.results.toList.mapM (ak { Tryz.prog with cutTypes:= #[] })).getD [])=?c)=>?c) ?h;case h=>conv=>lhs;reduce
def qd:X.Fn:=⟨zB,zr,29⟩
def xi:CC:=by refine(λ(_:G.rw_ Tryz.prog Tryz.f121 dI=?c)=>?c) ?h;case h=>conv=>lhs;reduce
def wZ:List ai:=by refine(λ(_:((Tryz.f121.results.toList.mapM (ak { Tryz.prog with cutTypes:= #[] })).getD [])=?c)=>?c) ?h;case h=>conv=>lhs;reduce
def oO:X.Fn:=⟨xi,wZ,25⟩
def F3:CC:=by refine(λ(_:G.rw_ Tryz.prog Tryz.f147 dI=?c)=>?c) ?h;case h=>conv=>lhs;reduce
def FS:List ai:=by refine(λ(_:((Tryz.f147.results.toList.mapM (ak { Tryz.prog with cutTypes:= #[] })).getD [])=?c)=>?c) ?h;case h=>conv=>lhs;reduce
def FY:X.Fn:=⟨F3,FS,21⟩
def Ip:CC:=by refine(λ(_:G.rw_ Tryz.prog Tryz.f148 dI=?c)=>?c) ?h;case h=>conv=>lhs;reduce
def Ih:List ai:=by refine(λ(_:((Tryz.f148.results.toList.mapM (ak { Tryz.prog with cutTypes:= #[] })).getD [])=?c)=>?c) ?h;case h=>conv=>lhs;reduce
def Il:X.Fn:=⟨Ip,Ih,17⟩
open X
variable {dq:Prop}
def qin:List (Nat×X.Fn):=[(ft,qb),(ll,sP),(aK,qd),(bb,oO),(lH,FY),(rE,Il),(lI,xe),(lJ,xf)]
def XU:∀p∈qin,Yt p:=bE (ou (by kernel_rfl)) <|bE (ou (by kernel_rfl)) <|bE (ou (by kernel_rfl)) <|bE (ou (by kernel_rfl)) <|bE (ou (by kernel_rfl)) <|bE (ou (by kernel_rfl)) <|bE (ou (by kernel_rfl)) <|bE (ou (by kernel_rfl)) <|Zx
noncomputable def Δ2(f:Nat):Option X.Fn:=qdv qin f
def Wo(k f:Nat):Tri dq Tryz.prog f (Pe Δ2 WZ (DW []) k f).pt:=
 MP (ag ae) (λk f args r h=>by cases h) (λf fn h=>XU _ (He _ _ _ h)) k f
def MI{f:Nat}{fn:X.Fn}(h:Δ2 f=some fn)(k:Nat):Tri dq Tryz.prog f (RY (En Δ2 WZ k) f):=by
 have:=Wo (dq:=dq) k f;unfold Pe at this;rw[h]at this;exact this
noncomputable def qdN(f:Nat)(l:List D):Option (D×XH):=En Δ2 WZ 10000 f l ⟨.e, [], [],0⟩
def Rs(b:Bool):Option (D×XH)->Bool
 | some (.v (.bool t),_)=>t==b
 | _=>false
def Xr(n:Int):Option (D×XH)->Bool
 | some (.v (.int .i64 a),_)=>decide (a=n)
 | _=>false
def Hk{b:Bool}{r:Option (D×XH)}(h:Rs b r=true):∃x,r=some (.v (.bool b),x):=by
 unfold Rs at h;split at h
 ·rename_i t x;have:t=b:=by simpa using h
  subst this;exact⟨x,rfl⟩
 ·cases h
def UF{n:Int}{r:Option (D×XH)}(h:Xr n r=true):∃x,r=some (.v (.int .i64 n),x):=by
 unfold Xr at h;split at h
 ·rename_i a x;simp only[decide_eq_true_eq]at h;subst h;exact⟨x,rfl⟩
 ·cases h
open Cod (enc dec)
abbrev s_rIsF:Spc:=aZ (a1 B) (λx=>x∈FeatL) (enc (X:=Bool)) λ_ y=>y=true
abbrev s_rVName:Spc:=aZ (a1 B) (λx=>x∈VE::Types) (enc (X:=Bool)) λ_ y=>y=true
abbrev s_rVVal:Spc:=aZ (a1 B) (λx=>x∈E0::NumL) (enc (X:=Int)) λ_ y=>y=0
def RR(s v:B):Bool:=s.data.toList.any λc=>decide (v.data.toList=[c])
abbrev s_rFeat:Spc:=aZ (a2 B B) (λx=>x.1∈FsetL/\x.2∈FeatL) (enc (X:=Bool)) λx y=>y=RR x.1 x.2
def qbf:(FeatL.all λv=>Rs true (qdN ft [.v (.string v)]))=true:=by kernel_rfl
def qgh:((VE::Types).all λv=>Rs true (qdN aK [.v (.string v)]))=true:=by kernel_rfl
def qgg:((E0::NumL).all λv=>Xr 0 (qdN bb [.v (.string v)]))=true:=by kernel_rfl
def qbg:(FsetL.all λs=>FeatL.all λv=>Rs (RR s v) (qdN ll [.v (.string s), .v (.string v)]))=true:=by kernel_rfl
def GG{ρ':VL}{x:Value}{r':D}(h:Rep ρ' (.v x) r'):FrzTo cv r' (.v x):=by cases h;exact .same _
def WA:Tri dq Tryz.prog ft s_rIsF.pt:=by
 refine ku (MI (fn:=qb) rfl 10000) λv hv=>⟨rfl,?_⟩
 obtain⟨x,h⟩:=Hk (qjF.1 qbf v hv);exact⟨_,_,true,h,λρ r' hr=>GG hr,rfl⟩
def P3:Tri dq Tryz.prog aK s_rVName.pt:=by
 refine ku (MI (fn:=qd) rfl 10000) λv hv=>⟨rfl,?_⟩
 obtain⟨x,h⟩:=Hk (qjF.1 qgh v hv);exact⟨_,_,true,h,λρ r' hr=>GG hr,rfl⟩
def TM:Tri dq Tryz.prog bb s_rVVal.pt:=by
 refine ku (MI (fn:=oO) rfl 10000) λv hv=>⟨rfl,?_⟩
 obtain⟨x,h⟩:=UF (qjF.1 qgg v hv);exact⟨_,_,(0:Int),h,λρ r' hr=>GG hr,rfl⟩
def TN:Tri dq Tryz.prog ll s_rFeat.pt:=by
 refine ku (MI (fn:=sP) rfl 10000) λx hx=>⟨rfl,?_⟩
 obtain⟨s,v⟩:=x;obtain⟨z,h⟩:=Hk (qjF.1 (qjF.1 qbg s hx.1) v hx.2);exact⟨_,_,RR s v,h,λρ r' hr=>GG hr,rfl⟩
end Go.Gv
namespace Go.Gv
open Cod (enc dec)
variable {S S0:Nat->Spc}
abbrev s_rAttr:Spc:=aZ (a2 (List Attr) B) (λ_=>True) (enc (X:=Int)) λx y=>y=di x.1 x.2
theorem A7:ax kP kC S (a2 (List Attr) B) (λ_=>True) (enc (X:=Int)) λx y=>y=di x.1 x.2:=by
 rintro⟨l,s⟩ -;simp[kP,kC, -Bool.forall_bool, -Bool.exists_bool];intro _;refine am (X:=Unit) [1,7] [] l.length (λk _=>∀x∈l.take k,decide (x.nm=s)=false) (λ_=>[]) (λ_=>[]) () (by simp) (by simp) (by omega) (by simp) (by simp) (by simp) (by simp) (by simp) ?_ ?_
 ·intro k _ hk hP;obtain⟨x,hx⟩:=cX hk;obtain⟨_,hgx⟩:=qjA.1 hx;simp[hk,hx,hgx, -Bool.forall_bool, -Bool.exists_bool];refine⟨λh=>?_,λh=>?_⟩
  ·exact(mV hx (by simp[h]) hP).symm
  ·rw[bi hx];intro z hz;rcases qjM.1 hz with hz|hz
   ·have:=hP z hz;simpa using this
   ·simp at hz;subst hz;simpa using h
 ·intro _ hP;simp[-Bool.forall_bool, -Bool.exists_bool];exact(gX (by simpa using hP)).symm
abbrev s_rIn:Spc:=aZ (a2 (List B) B) (λ_=>True) (enc (X:=Bool)) λx y=>y=oY x.1 x.2
theorem PJ:ax Ar zU S (a2 (List B) B) (λ_=>True) (enc (X:=Bool)) λx y=>y=oY x.1 x.2:=by
 rintro⟨l,s⟩ -;simp[Ar,zU, -Bool.forall_bool, -Bool.exists_bool];intro _;refine am (X:=Unit) [1,7] [] l.length (λk _=>∀x∈l.take k,¬x=s) (λ_=>[]) (λ_=>[]) () (by simp) (by simp) (by omega) (by simp) (by simp) (by simp) (by simp) (by simp) ?_ ?_
 ·intro k _ hk hP;obtain⟨x,hx⟩:=cX hk;obtain⟨_,hgx⟩:=qjA.1 hx;simp[hk,hx,hgx, -Bool.forall_bool, -Bool.exists_bool];refine⟨λh=>?_,λh=>?_⟩
  ·simp[oY];exact h ▸qjD hx
  ·rw[bi hx];intro z hz;rcases qjM.1 hz with hz|hz
   ·exact hP z hz
   ·simp at hz;subst hz;exact h
 ·intro _ hP;simp[-Bool.forall_bool, -Bool.exists_bool];simp[oY];exactλx hx=>hP x (by simpa using hx)
abbrev s_rShape:Spc:=aZ (a1 Cond) (λx=>MT x=true) (enc (X:=Bool)) λ_ y=>y=true
set_option maxHeartbeats 1000000 in
theorem Iv:ax cM cJ S (a1 Cond) (λx=>MT x=true) (enc (X:=Bool)) λ_ y=>y=true:=by
 rintro⟨op,name,arg,val,lab,fold,ks⟩ hx;have hx:MT ⟨op,name,arg,val,lab,fold,ks⟩=true:=hx;unfold MT at hx;simp only at hx;split at hx
 ·rename_i e;subst e;simp at hx;obtain⟨⟨rfl,rfl,rfl,rfl,rfl⟩,rfl⟩:=hx;simp[cM,cJ,dF, -Bool.forall_bool, -Bool.exists_bool]
 split at hx
 ·rename_i e;subst e;simp at hx;obtain⟨⟨rfl,rfl⟩,rfl⟩:=hx;simp[cM,cJ,dF, -Bool.forall_bool, -Bool.exists_bool]
 split at hx
 ·rename_i e;subst e;simp at hx;obtain⟨⟨rfl,rfl,rfl⟩,rfl⟩:=hx;simp[cM,cJ,dF, -Bool.forall_bool, -Bool.exists_bool]
 split at hx
 ·rename_i e;subst e;simp at hx;obtain⟨⟨rfl,rfl⟩,rfl⟩:=hx;simp[cM,cJ,dF, -Bool.forall_bool, -Bool.exists_bool]
 split at hx
 ·rename_i e;subst e;simp at hx;obtain⟨⟨rfl,rfl,hav⟩,rfl⟩:=hx;by_cases ha:arg=dF
  ·have hv:=hav.resolve_left λh=>h ha
   subst ha;subst hv;simp[cM,cJ,dF, -Bool.forall_bool, -Bool.exists_bool]
  ·have ha':¬arg=⟨#[]⟩:=ha;simp[cM,cJ,dF,ha', -Bool.forall_bool, -Bool.exists_bool]
 split at hx
 ·rename_i e;subst e;simp at hx;obtain⟨⟨rfl,rfl,rfl,rfl,rfl⟩,hk⟩:=hx;simp[cM,cJ,dF,hk, -Bool.forall_bool, -Bool.exists_bool]
 split at hx
 ·rename_i e;simp at hx;obtain⟨⟨rfl,rfl,rfl,rfl,rfl⟩,hk1,hk2⟩:=hx;have q1:(2:Int)<=(ks.length:Int):=by omega
  have q2:(ks.length:Int)<=60:=by omega
  have q2':(ks.length:Int)<=1000:=by omega
  have q3:(ks.length:Int)<=9223372036854775807:=by omega
  rcases e with rfl|rfl <;> simp[cM,cJ,dF,q1,q2,q2',q3, -Bool.forall_bool, -Bool.exists_bool]
 ·cases hx
end Go.Gv
namespace Go.Gv
open Go.Proofs X
variable {dq:Prop}
def qh4(b:Bool):Option (D×XH)->Bool
 | some (.v (.bool t),_)=>t==b
 | _=>false
def WT:List B:=um++DT
noncomputable def lP(v w:B)(f:Bool):Bool:=match(jv v).bind λx=>rq x w f with
 | some b=>qh4 b (En Δ WZ 10000 lj [.v (.string v), .v (.string w), .v (.bool f)] ⟨.e, [], [],0⟩)
 | none=>false
noncomputable def yw(v:B):Bool:=WT.all λw=>lP v w false && lP v w true
end Go.Gv
namespace Go.Gv
open Cod (enc dec)
abbrev s_rMatches:Spc:=aZ (a3 B B Bool) (λx=>x.1∈ValsI/\x.2.1∈WT) (enc (X:=Bool)) λx y=>((jv x.1).bind λz=>rq z x.2.1 x.2.2)=some y
abbrev s_rParse0:Spc:=aZ (a1 B) (λx=>x∈ValsI) (λ_:Unit=>D.tup [.agg [.any, .any, .any, .any, .any], .v (.int .i64 0), .v (.int .i64 0)]) λ_ _=>True
def qaC:Option (D×X.XH)->Bool
 | some (.tup [.agg [_,_,_,_,_], .v (.int .i64 a), .v (.int .i64 b)],_)=>decide (a=0) && decide (b=0)
 | _=>false
variable {S S0:Nat->Spc}
def qcZ(x:Cond):Prop:=(x.op=2->x.val∈ValsI/\(x.name=dF\/x.name∈Attr2))/\(x.op=3->x.val∈FeatL/\x.name=vV)/\(x.op=4->x.name∈Attr2/\x.arg∈Attr2)/\(x.op=5->x.name∈VE::Types/\(x.arg=dF\/x.arg∈VE::Types)/\x.val∈E0::NumL)
def Yz(x:Cond×List Attr×List B):Prop:=io x.2.1 x.2.2 x.1=true/\qcZ x.1/\x.2.1.length<=1000
abbrev s_rnode:Spc:=aZ (a3 Cond (List Attr) (List B)) Yz (enc (X:=Int)) λ_ y=>y=0
theorem Lc(h1:S pd=s_rShape)(h2:S fu=s_rAttr)(h3:S lG=s_rParse0)(h4:S ft=s_rIsF)(h5:S yG=s_rIn)(h6:S aK=s_rVName)(h7:S bb=s_rVVal):
 ax dY dS S (a3 Cond (List Attr) (List B)) Yz (enc (X:=Int)) λ_ y=>y=0:=by
 rintro⟨x,a,lb⟩ ⟨hx,hr,hl⟩;have hx:io a lb x=true:=hx;have hl:a.length<=1000:=hl;unfold io at hx;simp only[qjE]at hx;obtain⟨⟨hs,hn⟩,hc⟩:=hx;obtain⟨op,name,arg,val,lab,fold,ks⟩:=x;obtain⟨r2,r3,r4,r5⟩:=hr;simp only at r2 r3 r5;have hrg:=(yx (λx:Attr=>decide (x.nm=name)) a).2;have hlt:di a name < a.length:=hrg;have hl':(a.length:Int)<=9223372036854775807:=by omega
 unfold qbT at hc;unfold Ut at hn;simp only at hc hn;split at hc
 ·rename_i e;subst e;simp only[if_true,decide_eq_true_eq]at hn;have hv:=(r2 rfl).1;unfold kI at hn;have hl0:¬a=[]:=λe=>by
   subst e;simp[di,ko]at hn;split at hn <;> omega
  have hl1:0 < (a.length:Int):=by
   have:=List.length_pos_iff.2 hl0;omega
  have hl2:¬ (a.length:Int)=0:=by omega
  by_cases hne:name=dF
  ·subst hne;have hE:dF=⟨#[]⟩:=rfl;have hs':MT ⟨2,⟨#[]⟩,arg,val,lab,fold,ks⟩=true:=hs;simp[dY,dS,h1,h2,h3,hs',hl',hl0,hl1,hl2,hv,hE, -Bool.forall_bool, -Bool.exists_bool]
  ·have hne':¬name=⟨#[]⟩:=hne;rw[if_neg hne]at hn;have ha:¬di a name= -1:=by omega
   simp[dY,dS,h1,h2,h3,hs,hl',hl0,hl1,hl2,hne',ha,hv, -Bool.forall_bool, -Bool.exists_bool]
 rename_i e2;split at hc
 ·rename_i e;subst e;simp at hn;simp only[qjE]at hc;obtain⟨⟨⟨c1,c2⟩,c3⟩,c4⟩:=hc;obtain⟨b,hb⟩:=cX (show(di a name).toNat < a.length by omega);obtain⟨_,hgb⟩:=qjA.1 hb;rw[hb]at c1;have c1:b.st=true:=c1;have hv:=(r3 rfl).1;have ha:¬di a name= -1:=by omega
  simp[dY,dS,h1,h2,h4,hs,hn,hl',hlt,ha,hb,hgb,c1,hv, -Bool.forall_bool, -Bool.exists_bool]
 rename_i e3;split at hc
 ·rename_i e;subst e;simp at hn;have ha:¬di a name= -1:=by omega
  have ha2:¬di a arg= -1:=by omega
  have hc:oY lb lab=true:=hc;simp[dY,dS,h1,h2,h5,hs,hc,ha,ha2, -Bool.forall_bool, -Bool.exists_bool]
 rename_i e4;split at hc
 ·rename_i e;subst e;obtain⟨v1,v2,v3⟩:=r5 rfl;rcases v2 with v2|v2
  ·subst v2;have hs':MT ⟨5,name,⟨#[]⟩,val,lab,fold,ks⟩=true:=hs;simp[dY,dS,dF,h1,h2,h6,h7,hs',v1,v3, -Bool.forall_bool, -Bool.exists_bool]
  ·simp[dY,dS,h1,h2,h6,h7,hs,v1,v2,v3, -Bool.forall_bool, -Bool.exists_bool]
 rename_i e5;simp[dY,dS,h1,h2,hs,e2,e3,e4,e5, -Bool.forall_bool, -Bool.exists_bool]
def Y2(a:List Attr)(lb:List B):Nat->Cond->Prop
 | 0=>λ_=>False
 | n+1=>λx=>io a lb x=true/\qcZ x/\∀k∈x.kids,Y2 a lb n k
def SU(n:Nat)(x:Cond×List Attr×List B):Prop:=Y2 x.2.1 x.2.2 n x.1/\x.2.1.length<=1000
abbrev Jj(n:Nat):Spc:=aZ (a3 Cond (List Attr) (List B)) (SU n) (enc (X:=Int)) λ_ y=>y=0
def It(n:Nat)(h1:S wF=s_rnode)(h2:S lE=Jj n):
 ax rJ qL S (a3 Cond (List Attr) (List B)) (SU (n+1)) (enc (X:=Int)) λ_ y=>y=0:=by
 rintro⟨x,a,lb⟩ ⟨⟨hx,hr,hk⟩,hl⟩;simp only at hx hr hk hl;have hp0:Yz (x,a,lb):=⟨hx,hr,hl⟩
 simp[rJ,qL,h1,hp0];intro hkl;refine am (X:=Unit) [1,2,19] [] x.kids.length (λ_ _=>True) (λ_=>[]) (λ_=>[]) () (by simp) (by simp) (by omega) (by simp) (by simp) (by simp) (by simp) (by simp) ?_ ?_
 ·intro k _ hkk _;obtain⟨y,hy⟩:=cX hkk;obtain⟨_,hgy⟩:=qjA.1 hy;have hp:SU n (y,a,lb):=⟨hk y (qjD hy),hl⟩
  simp[h2,hkk,hy,hgy,hp]
 ·intro _ _;simp
def SW(n:Nat)(x:Cond×Int):Prop:=bM x.1<=n/\0<=x.2/\x.2+bM x.1<=61/\cY x.1<=60
abbrev Jl(n:Nat):Spc:=aZ (a2 Cond Int) (SW n) (sj (Y:=Int) (Z:=Int)) λx y=>y=((cY x.1:Int),(bM x.1:Int))
theorem Iu(n:Nat)(h1:S lF=Jl n):ax rK qM S (a2 Cond Int) (SW (n+1)) (sj (Y:=Int) (Z:=Int)) λx y=>y=((cY x.1:Int),(bM x.1:Int)):=by
 rintro⟨x,deep⟩ ⟨hn,h0,h2,h3⟩;simp only at hn h0 h2 h3;have hd1:=uE x;have hn1:=oW x;have hdp:¬60 < deep:=by omega
 simp[rK,qM,hdp];intro hkl;refine am (X:=Int×Int) [1,15] [] x.kids.length (λk z=>z.1=1+ (dy (x.kids.take k):Int)/\z.2=(ge (x.kids.take k):Int)) (λz=>[(6,enc z.1),(7,enc z.2)]) (λ_=>[]) (1,0) (by simp) (by simp) (by omega) (by simp) (by simp) (by simp[dy,ge]) (by simp) (by simp) ?_ ?_
 ·rintro k ⟨m,d⟩ hk ⟨e1,e2⟩;simp only at e1 e2;obtain⟨y,hy⟩:=cX hk;obtain⟨_,hgy⟩:=qjA.1 hy;have hm:=Fi hy;have hd:=uD (qjD hy);have hp:SW n (y,deep+1):=⟨by show bM y<=n;omega,by show 0<=deep+1;omega,by show deep+1+bM y<=61;omega,by show cY y<=60;omega⟩
  have hm60:¬60 < m+ (cY y:Int):=by omega
  have i1:InR .i64 (deep+1):=by simp only[InR];omega
  have i2:InR .i64 (m+ (cY y:Int)):=by simp only[InR];omega
  simp[h1,hk,hy,hgy,hp,hm60,i1,i2];exactλ_=>⟨by omega,by rw[hm.2.1,e2];omega⟩
 ·rintro⟨m,d⟩ ⟨e1,e2⟩;simp only at e1 e2;rw[qkl]at e1 e2;have i1:InR .i64 (d+1):=by simp only[InR];omega
  simp[i1];exact⟨by omega,by omega⟩
abbrev s_rcountA:Spc:=aZ (a2 Cond Int) (λx=>∃n,SW n x) (sj (Y:=Int) (Z:=Int)) λx y=>y=((cY x.1:Int),(bM x.1:Int))
abbrev s_rNodes:Spc:=aZ (a1 Cond) (λx=>cY x<=60/\bM x<=20) (sj (Y:=Int) (Z:=Int)) λx y=>y=((cY x:Int),(bM x:Int))
def Iw(h1:S lF=s_rcountA):ax rL qN S (a1 Cond) (λx=>cY x<=60/\bM x<=20) (sj (Y:=Int) (Z:=Int)) λx y=>y=((cY x:Int),(bM x:Int)):=by
 rintro x ⟨hn,hd⟩;have hp:∃n,SW n (x,0):=⟨20,hd,qlg _,by show(0:Int) +bM x<=61;omega,hn⟩
 simp[rL,qN,h1,hp]
abbrev s_rfirstA:Spc:=aZ (a3 Cond (List Attr) (List B)) (λx=>∃n,SU n x) (enc (X:=Int)) λ_ y=>y=0
def Yy(x:Cond×List Attr×List B):Prop:=cY x.1<=60/\bM x.1<=20/\∃n,SU n x
abbrev s_rVal:Spc:=aZ (a3 Cond (List Attr) (List B)) Yy (enc (X:=Int)) λ_ y=>y=0
def B9(h1:S tM=s_rNodes)(h2:S lE=s_rfirstA):ax mj lR S (a3 Cond (List Attr) (List B)) Yy (enc (X:=Int)) λ_ y=>y=0:=by
 rintro⟨x,a,lb⟩ ⟨hn,hd,hp⟩;simp only at hn hd;have q1:¬60 < (cY x:Int):=by omega
 have q2:¬20 < (bM x:Int):=by omega
 simp[mj,lR,h1,h2,hn,hd,hp,q1,q2, -Bool.forall_bool, -Bool.exists_bool, -exists_and_left, -exists_and_right]
end Go.Gv
