/- A part of the framework and of the walks: Fr4. -/
import Derived.Test.YtphdikcommfnhaaGreatDoorGe50
set_option linter.unusedSimpArgs false
set_option linter.unusedVariables false
set_option linter.unusedSectionVars false

namespace Go.Gv
open Go.ChangeShapes Go.WideShapes Go.ChangeAt Go.RowKit
section
variable {H:Type}{ec:TypeId×Value->H}{P:Program}{w:World}{base:Nat}{spare:Nat->Bool}{held:Bool}{tp I:Nat->Prop}
end
theorem UF{P:Program}{f:Nat}{X:Type}{A:df X}{p:X->Prop}{q:X->Bool->Prop}(h:Tri P f (aI A p (Cod.enc (X:=Bool)) q).pt)(hq:∀x y,q x y->y=true){w:World}{vs:List Value}{ds:List D}{x:X}(hp:p x)(hlen:vs.length=ds.length)
 (hR:∀ (k:Nat) (y:Value) (c:D),vs[k]? =some y->ds[k]? =some c->R (fun _=>False) (qpO w) w y c) (hdec:A.dec ds=some x) (hG:GlW (fun _=>False) (fun _=>False) w):
 Calls P f vs.toArray w fun e w'=>e= .returned (.bool true)/\Below w.heap.size w w':=by
 obtain⟨_,hc⟩:=h (fun _=>False) (fun _=>False) w vs ds bM 0 (fun r H'=>r= .v (.bool true)) (fun b h=>h.elim) ⟨fun b h=>h.elim,hG.mono (fun _ h=>h) (fun b ⟨i,r,h,_⟩=>by simp[bM]at h)⟩
  ⟨fun i j r s b h=>by simp[bM]at h,fun i r b h=>by simp[bM]at h,fun i r h=>by simp[bM]at h⟩ hlen hR
  (by rw[sT,hdec];exact⟨hp,fun y hy=>by rw[hq x y hy];rfl⟩)
 refine hc.mono ?_
 rintro e w' ⟨v,r,H',tp',rfl,hr,_,_,_,hs,_,_,hv⟩
 subst hr
 have hv':=hv.inv_v
 subst hv'
 exact⟨rfl,hs.os,hs.tape,hs.output,hs.size,fun k hk=>hs.same k hk (fun⟨i,r,h,_⟩=>by simp[bM]at h) (fun h=>h)⟩
end Go.Gv
