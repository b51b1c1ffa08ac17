/- A part of the framework and of the walks: V32 Fr4. -/
import Derived.Test.YtfbleenmepoodaaGreatDoorGa42
set_option linter.unusedSimpArgs false
set_option linter.unusedVariables false
set_option linter.unusedSectionVars false
set_option linter.defProp false
namespace Go.Gv
open Cod (enc dec)
instance:Cod UInt8 where
 wd:=1
 enc n:= .v (.int .u8 n.toNat)
 dec| .v (.int .u8 n)=>if 0<=n/\n<=255 then some (UInt8.ofNat n.toNat)else none|_=>none
 kn _:=rfl
 wid _:=rfl
 dec_enc n:=by
  have:=n.toNat_lt;simp only;rw[if_pos (by omega)];congr 1;rw[qlv,UInt8.ofNat_toNat]
 le d x h:=by
  split at h
  ·split at h
   ·rename_i n hn;cases h;have e:((UInt8.ofNat n.toNat).toNat:Int)=n:=by
     rw[qk1];omega
    show FrzTo cv _ (.v (.int .u8 ((UInt8.ofNat n.toNat).toNat:Int)));rw[e];exact .same _
   ·cases h
  ·cases h
open Go.ChangeShapes Go.WideShapes Go.ChangeAt Go.RowKit
variable {dq:Prop}
section
variable {H:Type}{ec:TypeId×Value->H}{P:Program}{w:World}{base:Nat}{spare:Nat->Bool}{held:Bool}{tp I:Nat->Prop}
end
theorem LZ{P:Program}{f:Nat}{X:Type}{A:fw X}{p:X->Prop}{q:X->Bool->Prop}(h:Tri dq P f (aZ A p (Cod.enc (X:=Bool)) q).pt)(hq:∀x y,q x y->y=true){w:World}{vs:List Value}{ds:List D}{x:X}(hp:p x)(hlen:vs.length=ds.length)
 (hR:∀ (k:Nat) (y:Value) (c:D),vs[k]? =some y->ds[k]? =some c->R (λ_=>False) (qdf w) w y c) (hdec:A.dec ds=some x) (hG:GlW (λ_=>False) (λ_=>False) w):
 Calls P f vs.toArray w λe w'=>e= .returned (.bool true)/\Below w.heap.size w w':=by
 obtain⟨_,hc⟩:=h (λ_=>False) (λ_=>False) w vs ds cv 0 (λr H'=>r= .v (.bool true)) (λb h=>h.elim) ⟨λb h=>h.elim,hG.mono (λ_ h=>h) (λb ⟨i,r,h,_⟩=>by simp[cv]at h)⟩
  ⟨λi j r s b h=>by simp[cv]at h,λi r b h=>by simp[cv]at h,λi r h=>by simp[cv]at h⟩ hlen hR
  (by rw[kA,hdec];exact⟨hp,λy hy=>by rw[hq x y hy];rfl⟩)
 refine hc.mono ?_;rintro e w' ⟨v,r,H',tp',rfl,hr,_,_,_,hs,_,_,hv⟩;subst hr;have hv':=hv.inv_v;subst hv';exact⟨rfl,hs.os,hs.tape,hs.output,hs.size,λk hk=>hs.same k hk (λ⟨i,r,h,_⟩=>by simp[cv]at h) (λh=>h)⟩
end Go.Gv
