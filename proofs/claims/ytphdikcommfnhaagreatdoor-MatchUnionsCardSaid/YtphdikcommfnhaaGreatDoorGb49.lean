/- A part of the framework and of the walks: V32 Fr4. -/
import Derived.Test.YtphdikcommfnhaaGreatDoorGb19
import Derived.Test.YtphdikcommfnhaaGreatDoorGb48
set_option linter.unusedSimpArgs false
set_option linter.unusedVariables false
set_option linter.unusedSectionVars false

namespace Go.Gv
open Cod (enc dec)
instance:Cod UInt8 where
 wd:=1
 enc n:= .v (.int .u8 n.toNat)
 dec| .v (.int .u8 n)=>if 0<=n/\n<=255 then some (UInt8.ofNat n.toNat)else none|_=>none
 kn _:=rfl
 wid _:=rfl
 dec_enc n:=by
  have:=n.toNat_lt
  simp only
  rw[if_pos (by omega)]
  congr 1
  rw[qvy,UInt8.ofNat_toNat]
 le d x h:=by
  split at h
  ·split at h
   ·rename_i n hn
    cases h
    have e:((UInt8.ofNat n.toNat).toNat:Int)=n:=by
     rw[qux]
     omega
    show FrzTo bU _ (.v (.int .u8 ((UInt8.ofNat n.toNat).toNat:Int)))
    rw[e]
    exact .same _
   ·cases h
  ·cases h
end Go.Gv

namespace Go.Gv
open Go.ChangeShapes Go.WideShapes Go.ChangeAt Go.RowKit
section
variable {H:Type}{ec:TypeId×Value->H}{P:Program}{w:World}{base:Nat}{spare:Nat->Bool}{held:Bool}{tp I:Nat->Prop}
end
theorem Sl{P:Program}{f:Nat}{X:Type}{A:dc X}{p:X->Prop}{q:X->Bool->Prop}(h:Tri P f (bp A p (Cod.enc (X:=Bool)) q).pt)(hq:∀x y,q x y->y=true){w:World}{vs:List Value}{ds:List D}{x:X}(hp:p x)(hlen:vs.length=ds.length)
 (hR:∀ (k:Nat) (y:Value) (c:D),vs[k]? =some y->ds[k]? =some c->R (fun _=>False) (qlg w) w y c) (hdec:A.dec ds=some x) (hG:GlW (fun _=>False) (fun _=>False) w):
 Calls P f vs.toArray w fun e w'=>e= .returned (.bool true)/\Below w.heap.size w w':=by
 obtain⟨_,hc⟩:=h (fun _=>False) (fun _=>False) w vs ds bU 0 (fun r H'=>r= .v (.bool true)) (fun b h=>h.elim) ⟨fun b h=>h.elim,hG.mono (fun _ h=>h) (fun b ⟨i,r,h,_⟩=>by simp[bU]at h)⟩
  ⟨fun i j r s b h=>by simp[bU]at h,fun i r b h=>by simp[bU]at h,fun i r h=>by simp[bU]at h⟩ hlen hR
  (by rw[rP,hdec];exact⟨hp,fun y hy=>by rw[hq x y hy];rfl⟩)
 refine hc.mono ?_
 rintro e w' ⟨v,r,H',tp',rfl,hr,_,_,_,hs,_,_,hv⟩
 subst hr
 have hv':=hv.inv_v
 subst hv'
 exact⟨rfl,hs.os,hs.tape,hs.output,hs.size,fun k hk=>hs.same k hk (fun⟨i,r,h,_⟩=>by simp[bU]at h) (fun h=>h)⟩
end Go.Gv
