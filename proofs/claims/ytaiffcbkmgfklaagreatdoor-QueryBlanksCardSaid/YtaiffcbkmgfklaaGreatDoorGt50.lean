/- A part of the framework and of the walks: V30 V32 W111 Asm9 Fr Fr2 Fr3 Fr4. -/
import Derived.WalkKit
import Derived.ProofKit
import Derived.OpenShut
import Derived.ShutString
import Derived.ChangeOld
import Derived.Below
import Derived.Test.YtaiffcbkmgfklaaGreatDoorGt49
import Derived.Test.YtaiffcbkmgfklaaGreatDoorGt37
import Derived.Test.YtaiffcbkmgfklaaGreatDoorGt17
import Derived.Test.YtaiffcbkmgfklaaGreatDoorGt47
import Derived.Test.YtaiffcbkmgfklaaGreatDoorGt20
set_option linter.unusedSimpArgs false
set_option linter.unusedVariables false
set_option maxRecDepth 100000

namespace Go.Gv
theorem Rn {s w:B} (hw:w.size≤400) (hz:s.size≤w.size) (h:Wd false s.data.toList w.data.toList) {q q':Qry} {i i' e e':Int} (h1:pV s=some (q,i,e)) (h2:pV w=some (q',i',e')):q=q'∧e=e':=by
 have hb:B2 ⟨s,0,0,E0,0⟩ ⟨w,0,0,E0,0⟩:=⟨rfl,rfl,⟨⟨Int.le_refl _,Int.natCast_nonneg _⟩,by show s.size≤100000;omega⟩,⟨⟨Int.le_refl _,Int.natCast_nonneg _⟩,by show w.size≤100000;omega⟩,h⟩
 have hq:=Vj 500 hb
 unfold pV at h1 h2
 rw[if_neg (by omega)] at h1 h2
 revert hq h1 h2
 generalize queryE 500 ⟨s,0,0,E0,0⟩=A
 generalize queryE 500 ⟨w,0,0,E0,0⟩=C
 intro h1 h2 hq
 match A,C,hq with
 | .ok a, .ok c,hq=>
   simp only[Option.some.injEq,Prod.mk.injEq] at h1 h2
   exact⟨by rw[←h1.1,←h2.1];exact hq.2,by omega⟩
 | .err a, .err c,hq=>
   have hq:a.2=c.2:=hq
   simp only[Option.some.injEq,Prod.mk.injEq] at h1 h2
   exact⟨by rw[←h1.1,←h2.1],by omega⟩
 | .no, .no,hq=> cases h1
def TE (q:Bool) (l w:List UInt8):Prop:= ∀r r',Wd q r r'→Wd false (l++r) (w++r')
theorem TN:TE false [] []:=fun r r' h=> h
theorem TO {q:Bool} {l w:List UInt8} (h:TE q l w):Wd false l w:=by
 have:=h [] [] (.nil q)
 rwa [List.append_nil,List.append_nil] at this
theorem TM {q:Bool} {l w:List UInt8} (h:TE q l w) (c:UInt8):TE (if c=34 then !q else q) (l++ [c]) (w++ [c]):=fun r r' hr=> by
 rw[List.append_assoc,List.append_assoc]
 exact h _ _ (.cons q c r r' hr)
theorem Oo {l w:List UInt8} (h:TE false l w) (b:List UInt8) (hb: ∀c∈b,b8 Bj c=true):TE false (l++ [32]) (w++ ([32] ++b)):=fun r r' hr=> by
 rw[List.append_assoc,List.append_assoc,List.append_assoc]
 exact h _ _ (.blank b r r' hb hr)
end Go.Gv

namespace Go.Gv
open Cod (enc dec)
instance:Cod UInt8 where
 wd:=1
 enc n:= .v (.int .u8 n.toNat)
 dec | .v (.int .u8 n)=> if 0≤n∧n≤255 then some (UInt8.ofNat n.toNat) else none | _=> none
 kn _:=rfl
 wid _:=rfl
 dec_enc n:=by
  have:=n.toNat_lt
  simp only
  rw[if_pos (by omega)]
  congr 1
  rw[Int.toNat_natCast,UInt8.ofNat_toNat]
 le d x h:=by
  split at h
  ·split at h
   ·rename_i n hn
    cases h
    have e: ((UInt8.ofNat n.toNat).toNat:Int)=n:=by
     rw[UInt8.toNat_ofNat']
     omega
    show FrzTo cu _ (.v (.int .u8 ((UInt8.ofNat n.toNat).toNat:Int)))
    rw[e]
    exact .same _
   ·cases h
  ·cases h
@[simp] theorem ZB (n:UInt8):enc n= .v (.int .u8 n.toNat):=id rfl
@[simp] theorem qan:Cod.wd UInt8=1:=id rfl
end Go.Gv

namespace Go.Gv
open Cod (enc dec)
variable {S S0:Nat→Spc}
abbrev s_lBlanks:Spc:=dt (a2 (List Int) (List UInt8)) (fun _=> True) (enc (X:=Bool)) fun _ y=> y=true
theorem vr (h1:S yy=s_m_New) (h2:S iK=wF) (h3:S li=zm) (h5:S du=s_eParse) (h7:S ol=HQ) (h8:S gN=zr):
 Walk i4 iy S (a2 (List Int) (List UInt8)) (fun _=> True) (enc (X:=Bool)) fun _ y=> y=true:=by
 rintro⟨l,gaps⟩ -
 simp[i4,iy,h1,h2,h3, -Bool.forall_bool, -Bool.exists_bool]
 intro _ q hq
 refine⟨⟨2,by decide,hq⟩,fun y hy=> ?_⟩
 obtain⟨t,ht,hl⟩:=JV (show GQ 2 q from hq) (by decide)
 rw[ht] at hy
 obtain rfl:=Option.some.inj hy
 clear hy ht
 refine gB (X:=B×Bool×Nat) [1,6] [] (fun x=> x.2.2≤t.size∧TE x.2.1 (t.data.toList.take x.2.2) x.1.data.toList∧x.2.2≤x.1.size∧x.1.size≤5*x.2.2) (fun x=> [(7,enc x.1),(8,enc x.2.1),(9,enc (x.2.2:Int))]) (fun _=> []) (fun x=> t.size -x.2.2) (E0,false,0) ⟨Nat.zero_le _,TN,Nat.zero_le _,Nat.zero_le _⟩ (by simp[E0]) (by simp) ?_
 rintro⟨w,qu,k⟩ ⟨hk,hw,hs1,hs2⟩
 simp only at hk hw hs1 hs2
 by_cases hlt:k < t.size
 ·obtain⟨c,hc⟩: ∃c,t.data[k]?=some c:=⟨t.data[k]'hlt,Array.getElem?_eq_getElem hlt⟩
  have htk:t.data.toList.take (k+1)=t.data.toList.take k++ [c]:=cp (by rw[Array.getElem?_toList];exact hc)
  have hcut:t.extract k (k+1)=⟨#[c]⟩:=BZ hc
  have h34: ((c.toNat:Int)=34) ↔c=34:=⟨fun h=> UInt8.toNat_inj.1 (by show c.toNat=34;omega),fun h=> by rw[h];rfl⟩
  have h32: ((c.toNat:Int)=32) ↔c=32:=⟨fun h=> UInt8.toNat_inj.1 (by show c.toNat=32;omega),fun h=> by rw[h];rfl⟩
  have hnot: ¬t.size≤k:=by omega
  have hmin:min (k+1) t.size -k=1:=by omega
  obtain⟨_,hgc⟩:=Array.getElem?_eq_some_iff.1 hc
  have app: ∀x y:B,(x++y).data.toList=x.data.toList++y.data.toList:=fun x y=> by rw[ByteArray.data_append,Array.toList_append]
  have one:=TM hw c
  rw[←htk] at one
  have s1: (w++ ⟨#[c]⟩).size=w.size+1:=by rw[ai];rfl
  by_cases e34:c=34
  ·rw[if_pos e34] at one
   subst e34
   have o2:TE (!qu) (t.data.toList.take (k+1)) (w++ ⟨#[34]⟩).data.toList:=by rw[app];exact one
   simp[hlt,hnot,hgc,hcut,hmin, -Bool.forall_bool, -Bool.exists_bool]
   have z1: (⟨#[34]⟩:B).size=1:=rfl
   exact fun _=> ⟨by simp only[InR];omega,by omega,by omega,by omega,by simp only[InR];omega,w++ ⟨#[34]⟩,!qu,k+1,⟨by omega,o2,by omega,by omega⟩,⟨rfl,by simp,by omega⟩,by omega⟩
  ·rw[if_neg e34] at one
   have o2:TE qu (t.data.toList.take (k+1)) (w++ ⟨#[c]⟩).data.toList:=by rw[app];exact one
   simp[hlt,hnot,hgc,h34,h32,e34,hcut,hmin, -Bool.forall_bool, -Bool.exists_bool]
   have z1: (⟨#[c]⟩:B).size=1:=rfl
   have z4: (⟨#[32,32,10,32]⟩:B).size=4:=rfl
   refine fun _=> ⟨by simp only[InR];omega,by omega,by omega,by omega,fun e32=> ⟨fun ef _=> ⟨fun hg=> ⟨hg,fun a ha=> ?_⟩,fun _=> ?_⟩,fun _=> ?_⟩,fun _=> ?_⟩
   ·have hm: ((a.toNat:Int).tmod 5)=((a.toNat % 5:Nat):Int):=by
     rw[Int.tmod_eq_emod_of_nonneg (by omega)]
     omega
    rw[hm]
    have hm5:a.toNat % 5 < 5:=Nat.mod_lt _ (by omega)
    generalize a.toNat % 5=m at hm5 ⊢
    have hx: ((⟨#[32,32,10,32]⟩:B).extract 0 m).data.toList=([32,32,10,32]:List UInt8).take m:=by
     rw[vj]
     rfl
    have hxs: ((⟨#[32,32,10,32]⟩:B).extract 0 m).size=min m 4:=by rw[ByteArray.size_extract,z4,Nat.sub_zero]
    subst ef
    subst e32
    have hall: ∀x∈ ([32,32,10,32]:List UInt8),b8 Bj x=true:=by decide
    have bl:=Oo hw (([32,32,10,32]:List UInt8).take m) (fun x hx=> hall x (List.mem_of_mem_take hx))
    rw[←htk] at bl
    have o3:TE false (t.data.toList.take (k+1)) ((w++ ⟨#[32]⟩) ++ (⟨#[32,32,10,32]⟩:B).extract 0 m).data.toList:=by
     rw[app,app,hx,List.append_assoc]
     exact bl
    refine⟨by omega,by omega,by omega,by simp only[InR];omega,_,false,k+1,⟨by omega,o3,?_,?_⟩,⟨rfl,rfl,by omega⟩,by omega⟩
    ·rw[ai,ai,hxs]
     omega
    ·rw[ai,ai,hxs]
     omega
   all_goals exact⟨by simp only[InR];omega,w++ ⟨#[c]⟩,qu,k+1,⟨by omega,o2,by omega,by omega⟩,⟨rfl,rfl,by omega⟩,by omega⟩
 ·obtain rfl:k=t.size:=by omega
  rw[show t.data.toList.take t.size=t.data.toList from List.take_of_length_le (Nat.le_refl _)] at hw
  obtain⟨q1,i1,e1,p1,_⟩:=GJ t
  obtain⟨q2,i2,e2,p2,_⟩:=GJ w
  have hnot: ¬t.size < t.size:=by omega
  simp[hnot,h5,h7,h8,p1,p2, -Bool.forall_bool, -Bool.exists_bool]
  intro _ _ hw4
  obtain⟨r1,r2⟩:=Rn (by omega) (by omega) (TO hw) p1 p2
  exact⟨fun _=> r1,r2⟩
end Go.Gv

namespace Go.Gv
open Go.Proofs Cod
theorem CG:Tri Tryz.prog nk s_lBlanks.pt:=
 ap (S:=ct [(yy,s_m_New),(iK,wF),(li,zm),(du,s_eParse),(ol,HQ),(gN,zr)]) (av (ae Ug (ae Cx (ae Qf (ae tu (ae WF (ae Cy am))))))) ug (fun _=> Nat.le_of_ble_eq_true rfl) (vr rfl rfl rfl rfl rfl rfl)
end Go.Gv

namespace Go.Gv
open Go.ChangeShapes Go.WideShapes Go.ChangeAt Go.RowKit
section
variable {H:Type} {ec:TypeId×Value→H} {P:Program} {w:World} {base:Nat} {spare:Nat→Bool} {held:Bool} {tp I:Nat→Prop}
def OpR (tp I:Nat→Prop) (w:World) (cs:List Value) (d:D):Prop:=cs.length=d.cells.length∧ ∀ (k:Nat) (y:Value) (c:D),cs[k]?=some y→d.cells[k]?=some c→y.oneCell'=true∧R tp I w y c
theorem OpR.one {y:Value} {d:D} (h:OpR tp I w [y] d) (hd:d.cells= [d]):R tp I w y d:=(h.2 0 y d rfl (by rw[hd];rfl)).2
theorem WG {t:TypeId} {fuel:Nat} {cs:List Value} {x:DataW H×List MemPlace} (ht:P.underlying t=some (.int .i64)) (h:DataW.trod ec P w base spare held fuel t cs=some x): ∃n:Int,OpR tp I w cs (Cod.enc n):=by
 obtain⟨n,rfl,_,_⟩:=DataW.trod_int ht h
 refine⟨n,rfl,fun k y c h1 h2=> ?_⟩
 cases k with
 | zero=> cases h1;cases h2;exact⟨rfl, .v _ rfl (fun s h=> by cases h)⟩
 | succ k=> simp at h1
theorem J3 {Y:Type} [Cod Y] {t e:TypeId} (ht:P.underlying t=some (.slice e)) (hc:P.cellsOf e=Cod.wd Y) (h0:0 < Cod.wd Y)
 (hel: ∀ (n:Nat) (cs:List Value) (x:DataW H×List MemPlace),DataW.trod ec P w base spare held n e cs=some x→ ∃y:Y,OpR tp I w cs (Cod.enc y)) (hI: ∀b,b < w.heap.size→I b)
 {fuel:Nat} {cs:List Value} {x:DataW H×List MemPlace} (h:DataW.trod ec P w base spare held fuel t cs=some x): ∃l:List Y,OpR tp I w cs (Cod.enc l):=by
 have one: ∀ (v:Value) (l:List Y),v.oneCell'=true→R tp I w v (.list (Cod.wd Y) (l.map Cod.enc))→OpR tp I w [v] (Cod.enc l):=fun v l h1 h2=> ⟨rfl,fun k y c e1 e2=> by
  cases k with
  | zero=> cases e1;cases e2;exact⟨h1,h2⟩
  | succ k=> simp at e1⟩
 rcases DataW.trod_slice ht h with⟨rfl,_⟩ | ⟨a,len,cap,elems,rest,n,_,rfl,_,_,hl,hm,hlen,hel',_⟩
 ·exact⟨[],one _ [] rfl (.nolist none 0 _)⟩
 ·by_cases hz:len=0
  ·subst hz
   exact⟨[],one _ [] rfl (.nolist (some a) cap _)⟩
  ·have each: ∀i:_root_.Fin len,∃p:List Value×Y,w.cells? base (a.add (i*P.cellsOf e)) (P.cellsOf e)=some p.1∧OpR tp I w p.1 (Cod.enc p.2):=fun i=> by
    have h1:=hel' i i.2
    rw[List.getElem?_eq_getElem (by omega)] at h1
    obtain⟨cs',h2,h3⟩:=Option.bind_eq_some_iff.1 h1
    obtain⟨y,hy⟩:=hel n cs' _ h3
    exact⟨(cs',y),h2,hy⟩
   obtain⟨g,hg⟩:=Classical.axiomOfChoice each
   obtain⟨b,off,spot⟩:=a
   have cellAt: ∀ (i:_root_.Fin len) (j:Nat),j < Cod.wd Y→ ∃v,(g i).1[j]?=some v∧w.cell? ((Addr.add ⟨b,off,spot⟩ (i*Cod.wd Y)).add j)=some v:=fun i j hj=> by
    have h1:=World.cells?_some (hg i).1
    have h2:=h1.2.2 j (by rw[hc];exact hj)
    have h3:j < (g i).1.length:=by rw[h1.2.1,hc];exact hj
    refine⟨(g i).1[j],List.getElem?_eq_getElem h3,?_⟩
    rw[hc] at h2
    rw[h2,List.getElem?_eq_getElem h3]
   have hs:spot=none:=by
    obtain⟨v,_,h2⟩:=cellAt ⟨0,by omega⟩ 0 h0
    have:=World.cell?_spot h2
    simpa [Addr.add] using this
   subst hs
   have hadd: ∀ (o n:Nat),Addr.add ⟨b,o,none⟩ n=⟨b,o+n,none⟩:=fun o n=> by
    unfold Addr.add
    split
    ·rename_i e;subst e;rfl
    ·rfl
   have cellAt': ∀ (i:_root_.Fin len) (j:Nat),j < Cod.wd Y→ ∃v,(g i).1[j]?=some v∧w.cell? ⟨b,off+ (i*Cod.wd Y+j),none⟩=some v:=fun i j hj=> by
    obtain⟨v,h1,h2⟩:=cellAt i j hj
    refine⟨v,h1,?_⟩
    rw[hadd,hadd] at h2
    rw[←Nat.add_assoc]
    exact h2
   have hb:b < w.heap.size:=by
    obtain⟨v,_,h2⟩:=cellAt' ⟨0,by omega⟩ 0 h0
    unfold World.cell? at h2
    by_cases hlt:b < w.heap.size
    ·exact hlt
    ·simp only[Array.getElem?_eq_none (Nat.le_of_not_lt hlt)] at h2
     cases h2
   let es:List Y:=List.ofFn fun i=> (g i).2
   have hesl:es.length=len:=by simp[es]
   have hesi: ∀i:_root_.Fin len,(es.map Cod.enc)[(i:Nat)]?=some (Cod.enc (g i).2):=fun i=> by
    rw[List.getElem?_map]
    have:es[(i:Nat)]?=some (g i).2:=by simp[es]
    rw[this];rfl
   have hw: ∀d∈es.map Cod.enc,d.kn=true∧d.cells.length=Cod.wd Y:=fun d hd=> by
    obtain⟨y,_,rfl⟩:=List.mem_map.1 hd
    exact⟨Cod.kn y,Cod.wid y⟩
   have flatAt: ∀ (k:Nat) (c:D),(bT (es.map Cod.enc))[k]?=some c→ ∃v,w.cell? ⟨b,off+k,none⟩=some v∧v.oneCell'=true∧R tp I w v c:=fun k c hk=> by
    have hkl:=(List.getElem?_eq_some_iff.1 hk).1
    rw[bt (fun d hd=> (hw d hd).2),List.length_map,hesl] at hkl
    have hdm:k=(k/Cod.wd Y) *Cod.wd Y+k % Cod.wd Y:=by have:=Nat.div_add_mod k (Cod.wd Y);rw[Nat.mul_comm] at this;omega
    have hmod:k % Cod.wd Y < Cod.wd Y:=Nat.mod_lt _ h0
    have hq:k/Cod.wd Y < len:=Nat.div_lt_of_lt_mul (by rw[Nat.mul_comm];exact hkl)
    have g1:=f7 (es:=es.map Cod.enc) (fun d hd=> (hw d hd).2) (i:=k/Cod.wd Y) hmod
    rw[←hdm,hk,hesi ⟨k/Cod.wd Y,hq⟩] at g1
    simp only[Option.bind_some] at g1
    obtain⟨v,h1,h2⟩:=cellAt' ⟨k/Cod.wd Y,hq⟩ (k % Cod.wd Y) hmod
    simp only at h2
    rw[←hdm] at h2
    exact⟨v,h2,(hg ⟨k/Cod.wd Y,hq⟩).2.2 _ v c h1 g1.symm⟩
   have hR:R tp I w (.slice (some ⟨b,off,none⟩) len cap) (.list (Cod.wd Y) (es.map Cod.enc)):=by
    have hll: (es.map (Cod.enc (X:=Y))).length=len:=by simp[hesl]
    rw[←hll]
    have rd: ∀ (k:Nat) (c:D),(bT (es.map Cod.enc))[k]?=some c→w.cell? ⟨b,off+k,none⟩=some ((w.cell? ⟨b,off+k,none⟩).getD Go.undef):=fun k c hk=> by
     obtain⟨v,h1,_⟩:=flatAt k c hk
     rw[h1];rfl
    refine .list b off cap _ (es.map Cod.enc) (fun k=> (w.cell? ⟨b,off+k,none⟩).getD Go.undef) (hI b hb) (by rw[hll];exact hl) hm hw rd (fun k c hk=> ?_) (fun k c hk=> ?_)
    ·obtain⟨v,h1,h2,_⟩:=flatAt k c hk
     rw[h1];exact h2
    ·obtain⟨v,h1,_,h2⟩:=flatAt k c hk
     rw[h1];exact h2
   exact⟨es,one _ es rfl hR⟩
end
end Go.Gv

namespace Go.Gv
open Go.ChangeShapes Go.WideShapes Go.ChangeAt Go.RowKit
section
variable {H:Type} {ec:TypeId×Value→H} {P:Program} {w:World} {base:Nat} {spare:Nat→Bool} {held:Bool} {tp I:Nat→Prop}
end
abbrev qaV (w:World):Nat→Prop:=bW (fun _=> False) (fun _=> False) cu w
theorem RC {w:World} {b:Nat} (h:b < w.heap.size):qaV w b:=⟨h,fun h=> h,fun h=> h,fun⟨i,r,h,_⟩=> by simp[cu] at h⟩
end Go.Gv

namespace Go.Gv
open Go.ChangeShapes Go.WideShapes Go.ChangeAt Go.RowKit
section
variable {H:Type} {ec:TypeId×Value→H} {P:Program} {w:World} {base:Nat} {spare:Nat→Bool} {held:Bool} {tp I:Nat→Prop}
end
end Go.Gv

namespace Go.Gv
open Go.ChangeShapes Go.WideShapes Go.ChangeAt Go.RowKit
section
variable {H:Type} {ec:TypeId×Value→H} {P:Program} {w:World} {base:Nat} {spare:Nat→Bool} {held:Bool} {tp I:Nat→Prop}
theorem Uz {t:TypeId} {fuel:Nat} {cs:List Value} {x:DataW H×List MemPlace} (ht:P.underlying t=some (.int .u8)) (h:DataW.trod ec P w base spare held fuel t cs=some x): ∃n:UInt8,OpR tp I w cs (Cod.enc n):=by
 obtain⟨n,rfl,_,hw⟩:=DataW.trod_int ht h
 have hr:0≤n∧n≤255:=by
  simp only[Lit.wf,Bool.and_eq_true,decide_eq_true_eq] at hw
  have h1:IntKind.u8.min=0:=rfl
  have h2:IntKind.u8.max=255:=rfl
  rw[h1,h2] at hw
  exact hw
 have e: ((UInt8.ofNat n.toNat).toNat:Int)=n:=by
  rw[UInt8.toNat_ofNat']
  omega
 refine⟨UInt8.ofNat n.toNat,rfl,fun k y c h1 h2=> ?_⟩
 cases k with
 | zero=>
   cases h1
   have h2:some (D.v (.int .u8 ((UInt8.ofNat n.toNat).toNat:Int)))=some c:=h2
   rw[e] at h2
   cases h2
   exact⟨rfl, .v _ rfl (fun s h=> by cases h)⟩
 | succ k=> simp at h1
end
theorem Mq {P:Program} {f:Nat} {X:Type} {A:jL X} {p:X→Prop} {q:X→Bool→Prop} (h:Tri P f (dt A p (Cod.enc (X:=Bool)) q).pt) (hq: ∀x y,q x y→y=true) {w:World} {vs:List Value} {ds:List D} {x:X} (hp:p x) (hlen:vs.length=ds.length)
 (hR: ∀ (k:Nat) (y:Value) (c:D),vs[k]?=some y→ds[k]?=some c→R (fun _=> False) (qaV w) w y c) (hdec:A.dec ds=some x):
 Calls P f vs.toArray w fun e w'=> e= .returned (.bool true)∧Below w.heap.size w w':=by
 obtain⟨_,hc⟩:=h (fun _=> False) (fun _=> False) w vs ds cu 0 (fun r H'=> r= .v (.bool true)) (fun b h=> h.elim) (fun b h=> h.elim)
  ⟨fun i j r s b h=> by simp[cu] at h,fun i r b h=> by simp[cu] at h,fun i r h=> by simp[cu] at h⟩ hlen hR
  (by rw[rb,hdec];exact⟨hp,fun y hy=> by rw[hq x y hy];rfl⟩)
 refine hc.mono ?_
 rintro e w' ⟨v,r,H',tp',rfl,hr,_,_,_,hs,_,_,hv⟩
 subst hr
 have hv':=hv.inv_v
 subst hv'
 exact⟨rfl,hs.os,hs.tape,hs.output,hs.size,fun k hk=> hs.same k hk (fun⟨i,r,h,_⟩=> by simp[cu] at h) (fun h=> h)⟩
end Go.Gv
