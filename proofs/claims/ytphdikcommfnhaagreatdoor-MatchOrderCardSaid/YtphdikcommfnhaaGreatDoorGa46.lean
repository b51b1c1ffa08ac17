/- A part of the framework and of the walks: Fr Fr2 Fr3 V32 Fr4 Fr6. -/
import Derived.WalkKit
import Derived.ProofKit
import Derived.OpenShut
import Derived.ShutString
import Derived.ChangeOld
import Derived.Below
import Derived.Test.YtphdikcommfnhaaGreatDoorGa21
import Derived.Test.YtphdikcommfnhaaGreatDoorGa19
import Derived.Test.YtphdikcommfnhaaGreatDoorGa36
set_option linter.unusedSimpArgs false
set_option linter.unusedVariables false

namespace Go.Gv
open Go.ChangeShapes Go.WideShapes Go.ChangeAt Go.RowKit
section
variable {H:Type} {ec:TypeId×Value->H} {P:Program} {w:World} {base:Nat} {spare:Nat->Bool} {held:Bool} {tp I:Nat->Prop}
def OpR (tp I:Nat->Prop) (w:World) (cs:List Value) (d:D):Prop:=cs.length=d.cells.length/\ ∀ (k:Nat) (y:Value) (c:D),cs[k]?=some y->d.cells[k]?=some c->y.oneCell'=true/\R tp I w y c
theorem OpR.one {y:Value} {d:D} (h:OpR tp I w [y] d) (hd:d.cells= [d]):R tp I w y d:=(h.2 0 y d rfl (by rw[hd];rfl)).2
theorem YG {t:TypeId} {fuel:Nat} {cs:List Value} {x:DataW H×List MemPlace} (ht:P.underlying t=some (.int .i64)) (h:DataW.trod ec P w base spare held fuel t cs=some x): ∃n:Int,OpR tp I w cs (Cod.enc n):=by
 obtain⟨n,rfl,_,_⟩:=DataW.trod_int ht h
 refine⟨n,rfl,fun k y c h1 h2=> ?_⟩
 cases k with
 | zero=> cases h1;cases h2;exact⟨rfl, .v _ rfl (fun s h=> by cases h)⟩
 | succ k=> simp at h1
theorem Sq {Y:Type} [Cod Y] {t e:TypeId} (ht:P.underlying t=some (.slice e)) (hc:P.cellsOf e=Cod.wd Y) (h0:0 < Cod.wd Y)
 (hel: ∀ (n:Nat) (cs:List Value) (x:DataW H×List MemPlace),DataW.trod ec P w base spare held n e cs=some x-> ∃y:Y,OpR tp I w cs (Cod.enc y)) (hI: ∀b,b < w.heap.size->I b)
 {fuel:Nat} {cs:List Value} {x:DataW H×List MemPlace} (h:DataW.trod ec P w base spare held fuel t cs=some x) (h1w:Cod.wd Y=1:=by rfl): ∃l:List Y,OpR tp I w cs (Cod.enc l):=by
 have one: ∀ (v:Value) (l:List Y),v.oneCell'=true->R tp I w v (.list (Cod.wd Y) (l.map Cod.enc))->OpR tp I w [v] (Cod.enc l):=fun v l h1 h2=> ⟨rfl,fun k y c e1 e2=> by
  cases k with
  | zero=> cases e1;cases e2;exact⟨h1,h2⟩
  | succ k=> simp at e1⟩
 rcases DataW.trod_slice ht h with⟨rfl,_⟩ | ⟨a,len,cap,elems,rest,n,_,rfl,_,_,hl,hm,hlen,hel',_⟩
 ·exact⟨[],one _ [] rfl (.nolist none 0 _)⟩
 ·by_cases hz:len=0
  ·subst hz
   exact⟨[],one _ [] rfl (.nolist (some a) cap _)⟩
  ·have each: ∀i:_root_.Fin len,∃p:List Value×Y,w.cells? base (a.add (i*P.cellsOf e)) (P.cellsOf e)=some p.1/\OpR tp I w p.1 (Cod.enc p.2):=fun i=> by
    have h1:=hel' i i.2
    rw[List.getElem?_eq_getElem (by omega)] at h1
    obtain⟨cs',h2,h3⟩:=Option.bind_eq_some_iff.1 h1
    obtain⟨y,hy⟩:=hel n cs' _ h3
    exact⟨(cs',y),h2,hy⟩
   obtain⟨g,hg⟩:=Classical.axiomOfChoice each
   obtain⟨b,off,spot⟩:=a
   have cellAt: ∀ (i:_root_.Fin len) (j:Nat),j < Cod.wd Y-> ∃v,(g i).1[j]?=some v/\w.cell? ((Addr.add ⟨b,off,spot⟩ (i*Cod.wd Y)).add j)=some v:=fun i j hj=> by
    have h1:=World.cells?_some (hg i).1
    have h2:=h1.2.2 j (by rw[hc];exact hj)
    have h3:j < (g i).1.length:=by rw[h1.2.1,hc];exact hj
    refine⟨(g i).1[j],List.getElem?_eq_getElem h3,?_⟩
    rw[hc] at h2
    rw[h2,List.getElem?_eq_getElem h3]
   have hs:spot=none:=by
    obtain⟨v,_,h2⟩:=cellAt ⟨0,by omega⟩ 0 h0
    have:=World.cell?_spot h2
    simpa [Addr.add] using this
   subst hs
   have hadd: ∀ (o n:Nat),Addr.add ⟨b,o,none⟩ n=⟨b,o+n,none⟩:=fun o n=> by
    unfold Addr.add
    split
    ·rename_i e;subst e;rfl
    ·rfl
   have cellAt': ∀ (i:_root_.Fin len) (j:Nat),j < Cod.wd Y-> ∃v,(g i).1[j]?=some v/\w.cell? ⟨b,off+ (i*Cod.wd Y+j),none⟩=some v:=fun i j hj=> by
    obtain⟨v,h1,h2⟩:=cellAt i j hj
    refine⟨v,h1,?_⟩
    rw[hadd,hadd] at h2
    rw[<-Nat.add_assoc]
    exact h2
   have hb:b < w.heap.size:=by
    obtain⟨v,_,h2⟩:=cellAt' ⟨0,by omega⟩ 0 h0
    unfold World.cell? at h2
    by_cases hlt:b < w.heap.size
    ·exact hlt
    ·simp only[Array.getElem?_eq_none (Nat.le_of_not_lt hlt)] at h2
     cases h2
   let es:List Y:=List.ofFn fun i=> (g i).2
   have hesl:es.length=len:=by simp[es]
   have hesi: ∀i:_root_.Fin len,(es.map Cod.enc)[(i:Nat)]?=some (Cod.enc (g i).2):=fun i=> by
    rw[List.getElem?_map]
    have:es[(i:Nat)]?=some (g i).2:=by simp[es]
    rw[this];rfl
   have hw: ∀d∈es.map Cod.enc,d.kn=true/\d.cells.length=Cod.wd Y:=fun d hd=> by
    obtain⟨y,_,rfl⟩:=List.mem_map.1 hd
    exact⟨Cod.kn y,Cod.wid y⟩
   have flatAt: ∀ (k:Nat) (c:D),(bF (es.map Cod.enc))[k]?=some c-> ∃v,w.cell? ⟨b,off+k,none⟩=some v/\v.oneCell'=true/\R tp I w v c:=fun k c hk=> by
    have hkl:=(List.getElem?_eq_some_iff.1 hk).1
    rw[bt (fun d hd=> (hw d hd).2),List.length_map,hesl] at hkl
    have hdm:k=(k/Cod.wd Y) *Cod.wd Y+k % Cod.wd Y:=by have:=Nat.div_add_mod k (Cod.wd Y);rw[Nat.mul_comm] at this;omega
    have hmod:k % Cod.wd Y < Cod.wd Y:=Nat.mod_lt _ h0
    have hq:k/Cod.wd Y < len:=Nat.div_lt_of_lt_mul (by rw[Nat.mul_comm];exact hkl)
    have g1:=dm (es:=es.map Cod.enc) (fun d hd=> (hw d hd).2) (i:=k/Cod.wd Y) hmod
    rw[<-hdm,hk,hesi ⟨k/Cod.wd Y,hq⟩] at g1
    simp only[Option.bind_some] at g1
    obtain⟨v,h1,h2⟩:=cellAt' ⟨k/Cod.wd Y,hq⟩ (k % Cod.wd Y) hmod
    simp only at h2
    rw[<-hdm] at h2
    exact⟨v,h2,(hg ⟨k/Cod.wd Y,hq⟩).2.2 _ v c h1 g1.symm⟩
   have hR:R tp I w (.slice (some ⟨b,off,none⟩) len cap) (.list (Cod.wd Y) (es.map Cod.enc)):=by
    have hll: (es.map (Cod.enc (X:=Y))).length=len:=by simp[hesl]
    rw[<-hll]
    have rd: ∀ (k:Nat) (c:D),(bF (es.map Cod.enc))[k]?=some c->w.cell? ⟨b,off+k,none⟩=some ((w.cell? ⟨b,off+k,none⟩).getD Go.undef):=fun k c hk=> by
     obtain⟨v,h1,_⟩:=flatAt k c hk
     rw[h1];rfl
    refine .list b off cap _ (es.map Cod.enc) (fun k=> (w.cell? ⟨b,off+k,none⟩).getD Go.undef) (hI b hb) (by rw[hll];exact hl) hm (fun h=> absurd h1w h) hw rd (fun k c hk=> ?_) (fun k c hk=> ?_)
    ·obtain⟨v,h1,h2,_⟩:=flatAt k c hk
     rw[h1];exact h2
    ·obtain⟨v,h1,_,h2⟩:=flatAt k c hk
     rw[h1];exact h2
   exact⟨es,one _ es rfl hR⟩
end
end Go.Gv

namespace Go.Gv
open Go.ChangeShapes Go.WideShapes Go.ChangeAt Go.RowKit
section
variable {H:Type} {ec:TypeId×Value->H} {P:Program} {w:World} {base:Nat} {spare:Nat->Bool} {held:Bool} {tp I:Nat->Prop}
end
abbrev qdK (w:World):Nat->Prop:=bG (fun _=> False) (fun _=> False) ed w
theorem SA {w:World} {b:Nat} (h:b < w.heap.size):qdK w b:=⟨h,fun h=> h,fun h=> h,fun⟨i,r,h,_⟩=> by simp[ed] at h⟩
end Go.Gv

namespace Go.Gv
open Go.ChangeShapes Go.WideShapes Go.ChangeAt Go.RowKit
section
variable {H:Type} {ec:TypeId×Value->H} {P:Program} {w:World} {base:Nat} {spare:Nat->Bool} {held:Bool} {tp I:Nat->Prop}
end
end Go.Gv

namespace Go.Gv
open Cod (enc dec)
instance:Cod UInt8 where
 wd:=1
 enc n:= .v (.int .u8 n.toNat)
 dec | .v (.int .u8 n)=> if 0<=n/\n<=255 then some (UInt8.ofNat n.toNat) else none | _=> none
 kn _:=rfl
 wid _:=rfl
 dec_enc n:=by
  have:=n.toNat_lt
  simp only
  rw[if_pos (by omega)]
  congr 1
  rw[Int.toNat_natCast,UInt8.ofNat_toNat]
 le d x h:=by
  split at h
  ·split at h
   ·rename_i n hn
    cases h
    have e: ((UInt8.ofNat n.toNat).toNat:Int)=n:=by
     rw[UInt8.toNat_ofNat']
     omega
    show FrzTo ed _ (.v (.int .u8 ((UInt8.ofNat n.toNat).toNat:Int)))
    rw[e]
    exact .same _
   ·cases h
  ·cases h
end Go.Gv

namespace Go.Gv
open Go.ChangeShapes Go.WideShapes Go.ChangeAt Go.RowKit
section
variable {H:Type} {ec:TypeId×Value->H} {P:Program} {w:World} {base:Nat} {spare:Nat->Bool} {held:Bool} {tp I:Nat->Prop}
end
theorem Ny {P:Program} {f:Nat} {X:Type} {A:du X} {p:X->Prop} {q:X->Bool->Prop} (h:Tri P f (cC A p (Cod.enc (X:=Bool)) q).pt) (hq: ∀x y,q x y->y=true) {w:World} {vs:List Value} {ds:List D} {x:X} (hp:p x) (hlen:vs.length=ds.length)
 (hR: ∀ (k:Nat) (y:Value) (c:D),vs[k]?=some y->ds[k]?=some c->R (fun _=> False) (qdK w) w y c) (hdec:A.dec ds=some x) (hG:GlW (fun _=> False) (fun _=> False) w):
 Calls P f vs.toArray w fun e w'=> e= .returned (.bool true)/\Below w.heap.size w w':=by
 obtain⟨_,hc⟩:=h (fun _=> False) (fun _=> False) w vs ds ed 0 (fun r H'=> r= .v (.bool true)) (fun b h=> h.elim) ⟨fun b h=> h.elim,hG.mono (fun _ h=> h) (fun b ⟨i,r,h,_⟩=> by simp[ed] at h)⟩
  ⟨fun i j r s b h=> by simp[ed] at h,fun i r b h=> by simp[ed] at h,fun i r h=> by simp[ed] at h⟩ hlen hR
  (by rw[sk,hdec];exact⟨hp,fun y hy=> by rw[hq x y hy];rfl⟩)
 refine hc.mono ?_
 rintro e w' ⟨v,r,H',tp',rfl,hr,_,_,_,hs,_,_,hv⟩
 subst hr
 have hv':=hv.inv_v
 subst hv'
 exact⟨rfl,hs.os,hs.tape,hs.output,hs.size,fun k hk=> hs.same k hk (fun⟨i,r,h,_⟩=> by simp[ed] at h) (fun h=> h)⟩
end Go.Gv

namespace Go.Gv
open Go.ChangeShapes Go.WideShapes Go.ChangeAt Go.RowKit
section
variable {H:Type} {ec:TypeId×Value->H} {P:Program} {w:World} {base:Nat} {spare:Nat->Bool} {held:Bool} {tp I:Nat->Prop}
theorem OpR.agg {cs:Array Value} {d:D} (h:OpR tp I w cs.toList d) (hd:d= .agg d.cells):R tp I w (.agg cs) d:=by
 rw[hd]
 have e:cs=cs.toList.toArray:=by simp
 rw[e]
 refine .agg _ _ h.1 (fun x hx=> ?_) fun k x c h1 h2=> (h.2 k x c h1 h2).2
 obtain⟨k,hk,rfl⟩:=List.mem_iff_getElem.1 hx
 have h3:k < d.cells.length:=by rw[<-h.1];exact hk
 exact(h.2 k _ _ (List.getElem?_eq_getElem hk) (List.getElem?_eq_getElem h3)).1
theorem PS {a:Option Addr} {len cap n:Nat} {es:List D} (h:R tp I w (.slice a len cap) (.list n es)):es.length=len:=by
 cases h with
 | nolist _ _ _=> rfl
 | list _ _ _ _ _ _ _ _ _ _ _ _ _ _=> rfl
theorem KD {t e:TypeId} {f0 f1 f2:Field} {fuel:Nat} {cs:List Value} {x:DataW H×List MemPlace} (ht:P.underlying t=some (.struct #[f0,f1,f2])) (o0:f0.offset=0) (o1:f1.offset=1) (o2:f2.offset=2) (c:P.cellsOf t=3) (c0:P.cellsOf f0.type=1) (c1:P.cellsOf f1.type=1) (c2:P.cellsOf f2.type=1)
 (i0:P.underlying f0.type=some (.int .i64)) (i1:P.underlying f1.type=some (.int .i64)) (i2:P.underlying f2.type=some (.slice e)) (ie:P.underlying e=some (.int .i64)) (ce:P.cellsOf e=1) (be:P.bytesOf e=8) (hI: ∀b,b < w.heap.size->I b)
 (h:DataW.trod ec P w base spare held fuel t cs=some x) (hw: (x.1.weights P t).all (· <=reachBytes)=true): ∃m:Match,OpR tp I w cs (Cod.enc m)/\oz m:=by
 obtain⟨xs,n,_,rfl,hl,hlen,hf⟩:=DataW.trod_struct ht h
 match xs,hlen with
 | [y0,y1,y2],_=>
   have h0:DataW.trod ec P w base spare held n f0.type ((cs.drop f0.offset).take (P.cellsOf f0.type))=some y0:=by simpa using hf 0 f0 rfl
   have h1:DataW.trod ec P w base spare held n f1.type ((cs.drop f1.offset).take (P.cellsOf f1.type))=some y1:=by simpa using hf 1 f1 rfl
   have h2:DataW.trod ec P w base spare held n f2.type ((cs.drop f2.offset).take (P.cellsOf f2.type))=some y2:=by simpa using hf 2 f2 rfl
   rw[o0,c0] at h0
   rw[o1,c1] at h1
   rw[o2,c2] at h2
   rw[c] at hl
   match cs,hl with
   | [a,b,d],_=>
     simp at h0 h1 h2
     obtain⟨n0,e0,_⟩:=DataW.trod_int i0 h0
     obtain⟨n1,e1,_⟩:=DataW.trod_int i1 h1
     simp at e0 e1
     subst e0;subst e1
     obtain⟨l,hl2⟩:=Sq (Y:=Int) (tp:=tp) i2 ce (by decide) (fun n cs x h=> YG ie h) hI h2
     have hR:=hl2.one rfl
     have hd1:d.oneCell'=true:=(hl2.2 0 d _ rfl rfl).1
     refine⟨⟨n0,n1,l⟩,⟨rfl,fun k y c k1 k2=> ?_⟩,?_⟩
     ·rcases k with _ | _ | _ | k
      ·cases k1;cases k2;exact⟨rfl, .v _ rfl (fun s h=> by cases h)⟩
      ·cases k1;cases k2;exact⟨rfl, .v _ rfl (fun s h=> by cases h)⟩
      ·cases k1;cases k2;exact⟨hd1,hR⟩
      ·simp at k1
     ·unfold oz
      have hll: ∀a len cap,d= .slice a len cap->l.length=len:=fun a len cap e=> by
       subst e
       have:=PS hR
       simpa using this
      rcases DataW.trod_slice i2 h2 with⟨e,_⟩ | ⟨a,len,cap,elems,rest,n,_,e,ex,_,_,_,hle,_⟩
      ·have:=hll none 0 0 (by simpa using e)
       show(2+l.length) *8<=_
       omega
      ·have h3:=hll (some a) len cap (by simpa using e)
       show(2+l.length) *8<=_
       have hm: (elems.length+rest.length) *8<=reachBytes:=by
        rw[List.all_eq_true] at hw
        have:=hw ((elems.length+rest.length) *8) (by
         simp only[DataW.weights,ht,List.map_cons,List.map_nil,DataW.weightsEach,List.append_nil]
         refine List.mem_append_right _ (List.mem_append_right _ ?_)
         rw[ex]
         simp[DataW.weights,i2,be])
        simpa using this
       have hr:reachBytes=140737488351232:=rfl
       omega
end
end Go.Gv
