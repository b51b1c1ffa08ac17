/- A part of the framework and of the walks: W110 W105 Asm8 Fr Fr2 Fr3 V32 Fr4. -/
import Derived.WalkKit
import Derived.ProofKit
import Derived.OpenShut
import Derived.ShutString
import Derived.ChangeOld
import Derived.Below
import Derived.Test.YtaiffcbkmgfklaaGreatDoorGu27
import Derived.Test.YtaiffcbkmgfklaaGreatDoorGu28
import Derived.Test.YtaiffcbkmgfklaaGreatDoorGu19
import Derived.Test.YtaiffcbkmgfklaaGreatDoorGu26
import Derived.Test.YtaiffcbkmgfklaaGreatDoorGu12
import Derived.Test.YtaiffcbkmgfklaaGreatDoorGu10
set_option linter.unusedSimpArgs false
set_option linter.unusedVariables false
set_option maxRecDepth 100000

namespace Go.Gv
open Cod (enc dec)
variable {S S0:Nat→Spc}
def ql6 (q:Qry):Prop:= ∃n,n≤5∧GQ n q
abbrev B4:Spc:=dG (a1 Qry) ql6 (enc (X:=B)) fun q y=> R8 q=some y
theorem HA {l:List jT} {k:Nat} {x:jT} (hx:l[k]?=some x) {r:B} (h:tj (l.drop k)=some r): ∃t r',SR x=some t∧tj (l.drop (k+1))=some r'∧r=t++r':=by
 rw[show l.drop k=x::l.drop (k+1) from dv hx,tj] at h
 obtain⟨t,h1,h⟩:=Option.bind_eq_some_iff.1 h
 obtain⟨r',h2,h⟩:=Option.map_eq_some_iff.1 h
 exact⟨t,r',h1,h2,h.symm⟩
set_option maxHeartbeats 2000000 in
theorem Kj (h1:S fe=BZ) (h2:S kM=Ce) (h3:S dq=s_leaves) (h4:S dn=s_malfA) (h5:S cN=vI 10) (h6:S aZ=gI 10) (h7:S fl=od) (h8:S dy=s_qstrats):
 Walk qN qh S (a1 Qry) ql6 (enc (X:=B)) fun q y=> R8 q=some y:=by
 rintro⟨p,g,fs,st⟩ ⟨n,hn,hq⟩
 obtain⟨t,ht,hl⟩:=M0 hq hn
 have hL:=pj
 have hR:=ht
 have fin: ∀ {u:B},u=t→R8 ⟨p,g,fs,st⟩=some u:=fun h=> by rw[h];exact hR
 unfold R8 at ht
 simp only at ht
 obtain⟨tp,hp,ht⟩:=Option.bind_eq_some_iff.1 ht
 obtain⟨tg,hg,ht⟩:=Option.bind_eq_some_iff.1 ht
 obtain⟨tf,hf,ht⟩:=Option.bind_eq_some_iff.1 ht
 obtain⟨ts,hs,ht⟩:=Option.map_eq_some_iff.1 ht
 rw[←ht] at hl
 simp only[av] at hl
 have q1:pA (lp (dm 10) 10) p:=⟨tp,hp,by omega⟩
 have q2:=YH hq hn
 simp only[sU,Bool.and_eq_true] at q2
 have q3:XC p []:=by
  have:=qaI hq hn
  have:=PE p
  show 0+ (aY p).length≤_
  simp only at*
  omega
 have q4:qjF g:=hq.glob.elim .inl fun h=> .inr ⟨_,2,Nat.le_refl _,h⟩
 have q5: ∀y∈aY p,∃lb m,m≤2∧GC lb m y.cond:=fun y hy=> ⟨_,1,by omega,hq.cond y hy⟩
 have q6:=hq.strat
 simp only at q6
 have q7: ¬st < 0:=by omega
 have q8: ¬3 < st:=by omega
 have q9:=hq.filts.2
 simp only at q9
 simp[qN,qh,h1,h2,h3,q2,q3,q4,q7,q8, -Bool.forall_bool, -Bool.exists_bool]
 refine .inl fun hkl=> ?_
 refine aO (X:=Unit) [1,30] [] (aY p).length (fun k _=> True) (fun _=> []) (fun _=> []) () (by simp) (by simp) (by omega) (by simp) (by simp) (by simp) (by simp) (by simp) ?_ ?_
 ·rintro k -hk -
  obtain⟨y,hy⟩:=cP hk
  obtain⟨_,hgy⟩:=List.getElem?_eq_some_iff.1 hy
  have hp:=q5 y (cn hy)
  simp[h4,hk,hy,hgy,hp, -Bool.forall_bool, -Bool.exists_bool]
 rintro - -
 by_cases hg0:g.op=0
 ·obtain rfl:tg=E0:=by
   unfold Mm at hg
   rw[if_pos hg0] at hg
   exact(Option.some.inj hg).symm
  simp[h5,q1,hp,hg0, -Bool.forall_bool, -Bool.exists_bool]
  intro hkl2
  obtain⟨P,hP⟩: ∃P,P=tp++E0:=⟨_,rfl⟩
  have hP':tp=P:=by rw[hP,E0,cQ]
  rw[hP']
  refine aO (X:=B×B) [1,54] [] fs.length (fun k x=> tj (fs.drop k)=some x.2∧x.1++x.2=(tp++E0) ++tf) (fun x=> [(5,enc x.1)]) (fun _=> []) (P,tf) (by simp) (by simp) (by omega) (by simp) (by simp) ⟨hf,by rw[hP]⟩ (by simp) (by simp) ?_ ?_
  ·rintro k ⟨acc,r⟩ hk ⟨c1,c2⟩
   simp only at c1 c2
   obtain⟨x,hx⟩:=cP hk
   obtain⟨_,hgx⟩:=List.getElem?_eq_some_iff.1 hx
   obtain⟨tk,r',d1,d2,rfl⟩:=HA hx c1
   obtain⟨e1,e2⟩:=q9 x (cn hx)
   have hl2:acc.size+ (tk.size+r'.size)≤6000:=by
    have:=congrArg ByteArray.size c2
    simp only[av] at this
    omega
   obtain⟨fop,fneg,freg⟩:=x
   simp only at e1 e2
   have nxt: ∀ (s0:B),s0=acc++tk→ ∃y,tj (fs.drop (k+1))=some y∧s0++y=(tp++E0) ++tf:=fun s0 e=> ⟨r',d2,by rw[e,←c2,ByteArray.append_assoc]⟩
   unfold SR at d1
   rcases e1 with rfl | rfl | rfl <;> cases fneg
   all_goals
    obtain rfl:=Option.some.inj d1
    simp only[av,ai] at hl2
    simp at hl2
    simp[h7,hk,hx,hgx,filterL,ai, -Bool.forall_bool, -Bool.exists_bool]
    repeat (refine And.intro (by omega) ?_)
    refine nxt _ ?_
    simp[filterL,ByteArray.append_assoc]
  ·rintro⟨acc,r⟩ ⟨c1,c2⟩
   simp only at c1 c2
   rw[List.drop_length,tj] at c1
   obtain rfl:=Option.some.inj c1
   have hacc:acc=(tp++E0) ++tf:=by rw[←c2,E0,cQ]
   have hasz:acc.size≤6000:=by
    rw[hacc]
    simp only[av]
    omega
   have hst:st=0∨st=1∨st=2∨st=3:=by omega
   rcases hst with rfl | rfl | rfl | rfl
   all_goals
    obtain rfl:=Option.some.inj hs
    simp[h8,dc,ai, -Bool.forall_bool, -Bool.exists_bool]
    repeat (refine And.intro (by omega) ?_)
    exact fin (by rw[←ht,hacc] <;> simp[dc,E0,cQ,ByteArray.append_assoc])
 ·obtain⟨u,hu,htg⟩: ∃u,bk 10 g=some u∧⟨#[32,58,58,32]⟩ ++u=tg:=by
   unfold Mm at hg
   rw[if_neg hg0] at hg
   exact Option.map_eq_some_iff.1 hg
  have hsz:tg.size=4+u.size:=by rw[←htg,av];rfl
  have qg:pA (bk 10) g:=⟨u,hu,by omega⟩
  simp[h5,h6,q1,qg,hu,hp,hg0,ai, -Bool.forall_bool, -Bool.exists_bool]
  repeat (refine And.intro (by omega) ?_)
  intro hkl2
  rw[htg]
  obtain⟨P,hP⟩: ∃P,P=tp++tg:=⟨_,rfl⟩
  rw[←hP]
  refine aO (X:=B×B) [1,54] [] fs.length (fun k x=> tj (fs.drop k)=some x.2∧x.1++x.2=(tp++tg) ++tf) (fun x=> [(5,enc x.1)]) (fun _=> []) (P,tf) (by simp) (by simp) (by omega) (by simp) (by simp) ⟨hf,by rw[hP]⟩ (by simp) (by simp) ?_ ?_
  ·rintro k ⟨acc,r⟩ hk ⟨c1,c2⟩
   simp only at c1 c2
   obtain⟨x,hx⟩:=cP hk
   obtain⟨_,hgx⟩:=List.getElem?_eq_some_iff.1 hx
   obtain⟨tk,r',d1,d2,rfl⟩:=HA hx c1
   obtain⟨e1,e2⟩:=q9 x (cn hx)
   have hl2:acc.size+ (tk.size+r'.size)≤6000:=by
    have:=congrArg ByteArray.size c2
    simp only[av] at this
    omega
   obtain⟨fop,fneg,freg⟩:=x
   simp only at e1 e2
   have nxt: ∀ (s0:B),s0=acc++tk→ ∃y,tj (fs.drop (k+1))=some y∧s0++y=(tp++tg) ++tf:=fun s0 e=> ⟨r',d2,by rw[e,←c2,ByteArray.append_assoc]⟩
   unfold SR at d1
   rcases e1 with rfl | rfl | rfl <;> cases fneg
   all_goals
    obtain rfl:=Option.some.inj d1
    simp only[av,ai] at hl2
    simp at hl2
    simp[h7,hk,hx,hgx,filterL,ai, -Bool.forall_bool, -Bool.exists_bool]
    repeat (refine And.intro (by omega) ?_)
    refine nxt _ ?_
    simp[filterL,ByteArray.append_assoc]
  ·rintro⟨acc,r⟩ ⟨c1,c2⟩
   simp only at c1 c2
   rw[List.drop_length,tj] at c1
   obtain rfl:=Option.some.inj c1
   have hacc:acc=(tp++tg) ++tf:=by rw[←c2,E0,cQ]
   have hasz:acc.size≤6000:=by
    rw[hacc]
    simp only[av]
    omega
   have hst:st=0∨st=1∨st=2∨st=3:=by omega
   rcases hst with rfl | rfl | rfl | rfl
   all_goals
    obtain rfl:=Option.some.inj hs
    simp[h8,dc,ai, -Bool.forall_bool, -Bool.exists_bool]
    repeat (refine And.intro (by omega) ?_)
    exact fin (by rw[←ht,hacc] <;> simp[dc,E0,cQ,ByteArray.append_assoc])
end Go.Gv

namespace Go.Gv
open Cod (enc dec)
variable {S S0:Nat→Spc}
theorem Sd (x:B): ∃q i e,tZ x=some (q,i,e)∧sj x=some (q,i,e):=by
 obtain⟨⟨q,i,e⟩,g1,g2⟩:=zf x
 exact⟨q,i,e,by rw[Se,g1],g1⟩
abbrev s_lChanged:Spc:=dG (a3 (List Int) Int Int) (fun x=> InR .i64 x.2.2) (enc (X:=Bool)) fun _ y=> y=true
theorem vu (h1:S Bq=s_m_New) (h2:S jl=yW) (h3:S mI=B4) (h4:S hX=rI) (h5:S ep=s_eParse) (h6:S oM=F3) (h7:S qE=KJ) (h8:S kQ=B9):
 Walk iM iG S (a3 (List Int) Int Int) (fun x=> InR .i64 x.2.2) (enc (X:=Bool)) fun _ y=> y=true:=by
 rintro⟨l,at',how⟩ hhow
 have hhow:InR .i64 how:=hhow
 simp[iM,iG,h1,h2,h3,h4,h5,h6,h7,h8, -Bool.forall_bool, -Bool.exists_bool]
 clear h1 h2 h3 h4 h5 h6 h7 h8
 intro _ q hq
 refine⟨⟨3,by decide,hq⟩,fun y hy hsz=> ?_⟩
 obtain⟨t,ht,hl⟩:=M0 (show GQ 3 q from hq) (by decide)
 rw[ht] at hy
 obtain rfl:=Option.some.inj hy
 clear hy ht
 have par: ∀x:B,(∃a i e,tZ x=some (a,i,e))∧ ∀ (a:Qry) (i e:Int),tZ x=some (a,i,e)→ ∀ (a':Qry) (i' e':Int),sj x=some (a',i',e')→(e=e'→(i=i'→a=a')∧i=i')∧e=e':=fun x=> by
  obtain⟨q,i,e,g1,g2⟩:=Sd x
  refine⟨⟨q,i,e,g1⟩,fun a j f h a' j' f' h'=> ?_⟩
  rw[g1] at h
  rw[g2] at h'
  cases h
  cases h'
  exact⟨fun _=> ⟨fun _=> rfl,rfl⟩,rfl⟩
 have hk:=wv at' ((t.size:Int) +1) (by omega)
 have h24:=wv (how.tdiv 4) 24 (by omega)
 have hdv:InR .i64 (how.tdiv 4):=by
  have: (how.tdiv 4).natAbs=how.natAbs/4:=Int.natAbs_tdiv how 4
  simp only[InR] at hhow ⊢
  omega
 have s24: (⟨#[91,93,40,41,123,125,60,62,124,38,33,61,58,46,44,63,42,43,45,34,97,49,32,37]⟩:B).size=24:=rfl
 have h4:=wv how 4 (by omega)
 revert hk h24 h4
 generalize CP at' ((t.size:Int) +1)=k
 generalize CP (how.tdiv 4) 24=c
 generalize CP how 4=m
 intro hk h24 h4
 simp only[s24]
 refine⟨by simp only[InR];omega,by omega,fun _=> ⟨by omega,by omega,par _⟩,fun _=> ⟨fun _=> ?_,fun _=> ⟨fun _ _=> ⟨fun _=> ?_,fun _=> par _⟩,fun _=> par _⟩⟩⟩
 ·exact⟨by omega,by omega,hdv,by omega,by omega,by omega,by omega,by omega,by omega,by omega,par _⟩
 ·exact⟨by omega,by omega,by simp only[InR];omega,by omega,by omega,by omega,par _⟩
end Go.Gv

namespace Go.Gv
open Go.Proofs Cod
theorem Ka:Tri Tryz.prog bl (fQ).pt:=
 ax (S:=bU []) (aw aj) Lg (fun _=> Nat.le_of_ble_eq_true rfl) (Mp)
theorem Fe:Tri Tryz.prog a7 (dg).pt:=
 ax (S:=bU [(bl,fQ)]) (aw (aa Ka aj)) IL (fun _=> Nat.le_of_ble_eq_true rfl) (Kg rfl)
theorem BJ:Tri Tryz.prog aW (cu).pt:=
 ax (S:=bU []) (aw aj) Gt (fun _=> Nat.le_of_ble_eq_true rfl) (Im)
theorem TB: ∀n,Tri Tryz.prog aN (UJ n).pt
 | 0=> df fun x h=> by have h:=h.2.2.2;omega
 | n+1=> ax (S:=bU [(aN,UJ n)]) (aw (aa (TB n) aj)) Er (fun _=> Nat.le_of_ble_eq_true rfl) (Ip n rfl)
theorem Zi:Tri Tryz.prog aN s_decA.pt:=gz (fun n=> TB n) (iz (fun x h=> ⟨2,h.1,h.2,fun _=> Nat.le_refl _,by omega⟩))
theorem DE: ∀n,Tri Tryz.prog b9 (rH n).pt
 | 0=> df fun x h=> by obtain⟨t,h,_⟩:=h;cases h
 | n+1=> ax (S:=bU [(a7,dg),(bl,fQ),(aW,cu),(b9,rH n)]) (aw (aa Fe (aa Ka (aa BJ (aa (DE n) aj))))) CA (fun _=> Nat.le_of_ble_eq_true rfl) (Ea n rfl rfl rfl rfl)
theorem Jd: ∀n,Tri Tryz.prog cN (vI n).pt
 | 0=> df fun x h=> by obtain⟨t,h,_⟩:=h;cases h
 | n+1=> ax (S:=bU [(a7,dg),(b9,rH 10),(aW,cu),(aN,s_decA),(cN,vI n)]) (aw (aa Fe (aa (DE 10) (aa BJ (aa Zi (aa (Jd n) aj)))))) Gu (fun _=> Nat.le_of_ble_eq_true rfl) (In n rfl rfl rfl rfl rfl)
theorem z6: ∀n,Tri Tryz.prog aZ (gI n).pt
 | 0=> df fun x h=> by obtain⟨t,h,_⟩:=h;cases h
 | n+1=> ax (S:=bU [(a7,dg),(bl,fQ),(aW,cu),(aN,nl),(ba,bY),(aZ,gI n)]) (aw (aa Fe (aa Ka (aa BJ (aa Zi (aa DQ (aa (z6 n) aj))))))) AV (fun _=> Nat.le_of_ble_eq_true rfl) (BN n rfl rfl rfl rfl rfl rfl)
theorem Mj: ∀n,Tri Tryz.prog gn (K2 n).pt
 | 0=> df fun x h=> by have h:=h.1;rw[xr] at h;omega
 | n+1=> ax (S:=bU [(gn,K2 n)]) (aw (aa (Mj n) aj)) Lh (fun _=> Nat.le_of_ble_eq_true rfl) (Mq n rfl)
theorem XD:Tri Tryz.prog gn s_countA.pt:=gz (fun n=> Mj n) (iz (fun x h=> h))
theorem XF:Tri Tryz.prog oQ (K4).pt:=
 ax (S:=bU [(gn,s_countA)]) (aw (aa XD aj)) Lk (fun _=> Nat.le_of_ble_eq_true rfl) (Mt rfl)
theorem XE:Tri Tryz.prog oP (zb).pt:=
 ax (S:=bU []) (aw aj) Lj (fun _=> Nat.le_of_ble_eq_true rfl) (Ms)
theorem Qp: ∀n,Tri Tryz.prog dn (Pa n).pt
 | 0=> df fun x h=> by have h:=h.1;rw[xr] at h;omega
 | n+1=> ax (S:=bU [(oQ,K4),(oP,zb),(dn,Pa n)]) (aw (aa XF (aa XE (aa (Qp n) aj)))) Cx (fun _=> Nat.le_of_ble_eq_true rfl) (D7 n rfl rfl rfl)
theorem ZO:Tri Tryz.prog dn s_malfA.pt:=gz (fun n=> Qp n) (iz (fun x h=> ⟨iN x,Nat.le_refl _,h⟩))
theorem z5: ∀n,Tri Tryz.prog dt (vN n).pt
 | 0=> df fun x h=> by have h:=h.1;rw[LM] at h;omega
 | n+1=> ax (S:=bU [(dt,vN n)]) (aw (aa (z5 n) aj)) Cz (fun _=> Nat.le_of_ble_eq_true rfl) (D9 n rfl)
theorem Mi:Tri Tryz.prog dt s_globNodesA.pt:=gz (fun n=> z5 n) (iz (fun x h=> h))
theorem z4: ∀n,Tri Tryz.prog dr (vM n).pt
 | 0=> df fun x h=> by have h:=h.1;rw[LM] at h;omega
 | n+1=> ax (S:=bU [(dr,vM n)]) (aw (aa (z4 n) aj)) Cy (fun _=> Nat.le_of_ble_eq_true rfl) (D8 n rfl)
theorem Mh:Tri Tryz.prog dr s_globShapeA.pt:=gz (fun n=> z4 n) (iz (fun x h=> h))
theorem Rz:Tri Tryz.prog kM (Ce).pt:=
 ax (S:=bU [(dt,s_globNodesA),(dr,s_globShapeA)]) (aw (aa Mi (aa Mh aj))) Gy (fun _=> Nat.le_of_ble_eq_true rfl) (Iq rfl rfl)
theorem TC:Tri Tryz.prog mI (B4).pt:=
 ax (S:=bU [(fe,BZ),(kM,Ce),(dq,s_leaves),(dn,s_malfA),(cN,vI 10),(aZ,gI 10),(fl,od),(dy,s_qstrats)]) (aw (aa Ks (aa Rz (aa Kt (aa ZO (aa (Jd 10) (aa (z6 10) (aa Jz (aa AK aj))))))))) Gz (fun _=> Nat.le_of_ble_eq_true rfl) (Kj rfl rfl rfl rfl rfl rfl rfl rfl)
theorem Em:Tri Tryz.prog oR s_lChanged.pt:=
 ax (S:=bU [(Bq,s_m_New),(jl,yW),(mI,B4),(hX,rI),(ep,s_eParse),(oM,F3),(qE,KJ),(kQ,B9)]) (aw (aa X7 (aa FC (aa TC (aa KB (aa vC (aa Yq (aa qao (aa FD aj))))))))) vb (fun _=> Nat.le_of_ble_eq_true rfl) (vu rfl rfl rfl rfl rfl rfl rfl rfl)
end Go.Gv

namespace Go.Gv
open Go.ChangeShapes Go.WideShapes Go.ChangeAt Go.RowKit
section
variable {H:Type} {ec:TypeId×Value→H} {P:Program} {w:World} {base:Nat} {spare:Nat→Bool} {held:Bool} {tp I:Nat→Prop}
def OpR (tp I:Nat→Prop) (w:World) (cs:List Value) (d:D):Prop:=cs.length=d.cells.length∧ ∀ (k:Nat) (y:Value) (c:D),cs[k]?=some y→d.cells[k]?=some c→y.oneCell'=true∧R tp I w y c
theorem OpR.one {y:Value} {d:D} (h:OpR tp I w [y] d) (hd:d.cells= [d]):R tp I w y d:=(h.2 0 y d rfl (by rw[hd];rfl)).2
theorem qap {t:TypeId} {fuel:Nat} {cs:List Value} {x:DataW H×List MemPlace} (ht:P.underlying t=some (.int .i64)) (h:DataW.trod ec P w base spare held fuel t cs=some x): ∃n:Int,OpR tp I w cs (Cod.enc n):=by
 obtain⟨n,rfl,_,_⟩:=DataW.trod_int ht h
 refine⟨n,rfl,fun k y c h1 h2=> ?_⟩
 cases k with
 | zero=> cases h1;cases h2;exact⟨rfl, .v _ rfl (fun s h=> by cases h)⟩
 | succ k=> simp at h1
theorem U5 {Y:Type} [Cod Y] {t e:TypeId} (ht:P.underlying t=some (.slice e)) (hc:P.cellsOf e=Cod.wd Y) (h0:0 < Cod.wd Y)
 (hel: ∀ (n:Nat) (cs:List Value) (x:DataW H×List MemPlace),DataW.trod ec P w base spare held n e cs=some x→ ∃y:Y,OpR tp I w cs (Cod.enc y)) (hI: ∀b,b < w.heap.size→I b)
 {fuel:Nat} {cs:List Value} {x:DataW H×List MemPlace} (h:DataW.trod ec P w base spare held fuel t cs=some x): ∃l:List Y,OpR tp I w cs (Cod.enc l):=by
 have one: ∀ (v:Value) (l:List Y),v.oneCell'=true→R tp I w v (.list (Cod.wd Y) (l.map Cod.enc))→OpR tp I w [v] (Cod.enc l):=fun v l h1 h2=> ⟨rfl,fun k y c e1 e2=> by
  cases k with
  | zero=> cases e1;cases e2;exact⟨h1,h2⟩
  | succ k=> simp at e1⟩
 rcases DataW.trod_slice ht h with⟨rfl,_⟩ | ⟨a,len,cap,elems,rest,n,_,rfl,_,_,hl,hm,hlen,hel',_⟩
 ·exact⟨[],one _ [] rfl (.nolist none 0 _)⟩
 ·by_cases hz:len=0
  ·subst hz
   exact⟨[],one _ [] rfl (.nolist (some a) cap _)⟩
  ·have each: ∀i:_root_.Fin len,∃p:List Value×Y,w.cells? base (a.add (i*P.cellsOf e)) (P.cellsOf e)=some p.1∧OpR tp I w p.1 (Cod.enc p.2):=fun i=> by
    have h1:=hel' i i.2
    rw[List.getElem?_eq_getElem (by omega)] at h1
    obtain⟨cs',h2,h3⟩:=Option.bind_eq_some_iff.1 h1
    obtain⟨y,hy⟩:=hel n cs' _ h3
    exact⟨(cs',y),h2,hy⟩
   obtain⟨g,hg⟩:=Classical.axiomOfChoice each
   obtain⟨b,off,spot⟩:=a
   have cellAt: ∀ (i:_root_.Fin len) (j:Nat),j < Cod.wd Y→ ∃v,(g i).1[j]?=some v∧w.cell? ((Addr.add ⟨b,off,spot⟩ (i*Cod.wd Y)).add j)=some v:=fun i j hj=> by
    have h1:=World.cells?_some (hg i).1
    have h2:=h1.2.2 j (by rw[hc];exact hj)
    have h3:j < (g i).1.length:=by rw[h1.2.1,hc];exact hj
    refine⟨(g i).1[j],List.getElem?_eq_getElem h3,?_⟩
    rw[hc] at h2
    rw[h2,List.getElem?_eq_getElem h3]
   have hs:spot=none:=by
    obtain⟨v,_,h2⟩:=cellAt ⟨0,by omega⟩ 0 h0
    have:=World.cell?_spot h2
    simpa [Addr.add] using this
   subst hs
   have hadd: ∀ (o n:Nat),Addr.add ⟨b,o,none⟩ n=⟨b,o+n,none⟩:=fun o n=> by
    unfold Addr.add
    split
    ·rename_i e;subst e;rfl
    ·rfl
   have cellAt': ∀ (i:_root_.Fin len) (j:Nat),j < Cod.wd Y→ ∃v,(g i).1[j]?=some v∧w.cell? ⟨b,off+ (i*Cod.wd Y+j),none⟩=some v:=fun i j hj=> by
    obtain⟨v,h1,h2⟩:=cellAt i j hj
    refine⟨v,h1,?_⟩
    rw[hadd,hadd] at h2
    rw[←Nat.add_assoc]
    exact h2
   have hb:b < w.heap.size:=by
    obtain⟨v,_,h2⟩:=cellAt' ⟨0,by omega⟩ 0 h0
    unfold World.cell? at h2
    by_cases hlt:b < w.heap.size
    ·exact hlt
    ·simp only[Array.getElem?_eq_none (Nat.le_of_not_lt hlt)] at h2
     cases h2
   let es:List Y:=List.ofFn fun i=> (g i).2
   have hesl:es.length=len:=by simp[es]
   have hesi: ∀i:_root_.Fin len,(es.map Cod.enc)[(i:Nat)]?=some (Cod.enc (g i).2):=fun i=> by
    rw[List.getElem?_map]
    have:es[(i:Nat)]?=some (g i).2:=by simp[es]
    rw[this];rfl
   have hw: ∀d∈es.map Cod.enc,d.kn=true∧d.cells.length=Cod.wd Y:=fun d hd=> by
    obtain⟨y,_,rfl⟩:=List.mem_map.1 hd
    exact⟨Cod.kn y,Cod.wid y⟩
   have flatAt: ∀ (k:Nat) (c:D),(cj (es.map Cod.enc))[k]?=some c→ ∃v,w.cell? ⟨b,off+k,none⟩=some v∧v.oneCell'=true∧R tp I w v c:=fun k c hk=> by
    have hkl:=(List.getElem?_eq_some_iff.1 hk).1
    rw[bA (fun d hd=> (hw d hd).2),List.length_map,hesl] at hkl
    have hdm:k=(k/Cod.wd Y) *Cod.wd Y+k % Cod.wd Y:=by have:=Nat.div_add_mod k (Cod.wd Y);rw[Nat.mul_comm] at this;omega
    have hmod:k % Cod.wd Y < Cod.wd Y:=Nat.mod_lt _ h0
    have hq:k/Cod.wd Y < len:=Nat.div_lt_of_lt_mul (by rw[Nat.mul_comm];exact hkl)
    have g1:=gM (es:=es.map Cod.enc) (fun d hd=> (hw d hd).2) (i:=k/Cod.wd Y) hmod
    rw[←hdm,hk,hesi ⟨k/Cod.wd Y,hq⟩] at g1
    simp only[Option.bind_some] at g1
    obtain⟨v,h1,h2⟩:=cellAt' ⟨k/Cod.wd Y,hq⟩ (k % Cod.wd Y) hmod
    simp only at h2
    rw[←hdm] at h2
    exact⟨v,h2,(hg ⟨k/Cod.wd Y,hq⟩).2.2 _ v c h1 g1.symm⟩
   have hR:R tp I w (.slice (some ⟨b,off,none⟩) len cap) (.list (Cod.wd Y) (es.map Cod.enc)):=by
    have hll: (es.map (Cod.enc (X:=Y))).length=len:=by simp[hesl]
    rw[←hll]
    have rd: ∀ (k:Nat) (c:D),(cj (es.map Cod.enc))[k]?=some c→w.cell? ⟨b,off+k,none⟩=some ((w.cell? ⟨b,off+k,none⟩).getD Go.undef):=fun k c hk=> by
     obtain⟨v,h1,_⟩:=flatAt k c hk
     rw[h1];rfl
    refine .list b off cap _ (es.map Cod.enc) (fun k=> (w.cell? ⟨b,off+k,none⟩).getD Go.undef) (hI b hb) (by rw[hll];exact hl) hm hw rd (fun k c hk=> ?_) (fun k c hk=> ?_)
    ·obtain⟨v,h1,h2,_⟩:=flatAt k c hk
     rw[h1];exact h2
    ·obtain⟨v,h1,_,h2⟩:=flatAt k c hk
     rw[h1];exact h2
   exact⟨es,one _ es rfl hR⟩
end
end Go.Gv

namespace Go.Gv
open Go.ChangeShapes Go.WideShapes Go.ChangeAt Go.RowKit
section
variable {H:Type} {ec:TypeId×Value→H} {P:Program} {w:World} {base:Nat} {spare:Nat→Bool} {held:Bool} {tp I:Nat→Prop}
end
abbrev qcQ (w:World):Nat→Prop:=cm (fun _=> False) (fun _=> False) cF w
theorem qaz {w:World} {b:Nat} (h:b < w.heap.size):qcQ w b:=⟨h,fun h=> h,fun h=> h,fun⟨i,r,h,_⟩=> by simp[cF] at h⟩
end Go.Gv

namespace Go.Gv
open Go.ChangeShapes Go.WideShapes Go.ChangeAt Go.RowKit
section
variable {H:Type} {ec:TypeId×Value→H} {P:Program} {w:World} {base:Nat} {spare:Nat→Bool} {held:Bool} {tp I:Nat→Prop}
end
end Go.Gv

namespace Go.Gv
open Cod (enc dec)
instance:Cod UInt8 where
 wd:=1
 enc n:= .v (.int .u8 n.toNat)
 dec | .v (.int .u8 n)=> if 0≤n∧n≤255 then some (UInt8.ofNat n.toNat) else none | _=> none
 kn _:=rfl
 wid _:=rfl
 dec_enc n:=by
  have:=n.toNat_lt
  simp only
  rw[if_pos (by omega)]
  congr 1
  rw[Int.toNat_natCast,UInt8.ofNat_toNat]
 le d x h:=by
  split at h
  ·split at h
   ·rename_i n hn
    cases h
    have e: ((UInt8.ofNat n.toNat).toNat:Int)=n:=by
     rw[UInt8.toNat_ofNat']
     omega
    show FrzTo cF _ (.v (.int .u8 ((UInt8.ofNat n.toNat).toNat:Int)))
    rw[e]
    exact .same _
   ·cases h
  ·cases h
end Go.Gv

namespace Go.Gv
open Go.ChangeShapes Go.WideShapes Go.ChangeAt Go.RowKit
section
variable {H:Type} {ec:TypeId×Value→H} {P:Program} {w:World} {base:Nat} {spare:Nat→Bool} {held:Bool} {tp I:Nat→Prop}
theorem U6 {t:TypeId} {fuel:Nat} {cs:List Value} {x:DataW H×List MemPlace} (ht:P.underlying t=some (.int .i64)) (h:DataW.trod ec P w base spare held fuel t cs=some x): ∃n:Int,InR .i64 n∧OpR tp I w cs (Cod.enc n):=by
 obtain⟨n,rfl,_,hw⟩:=DataW.trod_int ht h
 refine⟨n,?_,rfl,fun k y c h1 h2=> ?_⟩
 ·simp only[Lit.wf,Bool.and_eq_true,decide_eq_true_eq] at hw
  have h1:IntKind.i64.min= -9223372036854775808:=rfl
  have h2:IntKind.i64.max=9223372036854775807:=rfl
  rw[h1,h2] at hw
  exact hw
 ·cases k with
  | zero=> cases h1;cases h2;exact⟨rfl, .v _ rfl (fun s h=> by cases h)⟩
  | succ k=> simp at h1
end
theorem PF {P:Program} {f:Nat} {X:Type} {A:ix X} {p:X→Prop} {q:X→Bool→Prop} (h:Tri P f (dG A p (Cod.enc (X:=Bool)) q).pt) (hq: ∀x y,q x y→y=true) {w:World} {vs:List Value} {ds:List D} {x:X} (hp:p x) (hlen:vs.length=ds.length)
 (hR: ∀ (k:Nat) (y:Value) (c:D),vs[k]?=some y→ds[k]?=some c→R (fun _=> False) (qcQ w) w y c) (hdec:A.dec ds=some x):
 Calls P f vs.toArray w fun e w'=> e= .returned (.bool true)∧Below w.heap.size w w':=by
 obtain⟨_,hc⟩:=h (fun _=> False) (fun _=> False) w vs ds cF 0 (fun r H'=> r= .v (.bool true)) (fun b h=> h.elim) (fun b h=> h.elim)
  ⟨fun i j r s b h=> by simp[cF] at h,fun i r b h=> by simp[cF] at h,fun i r h=> by simp[cF] at h⟩ hlen hR
  (by rw[tE,hdec];exact⟨hp,fun y hy=> by rw[hq x y hy];rfl⟩)
 refine hc.mono ?_
 rintro e w' ⟨v,r,H',tp',rfl,hr,_,_,_,hs,_,_,hv⟩
 subst hr
 have hv':=hv.inv_v
 subst hv'
 exact⟨rfl,hs.os,hs.tape,hs.output,hs.size,fun k hk=> hs.same k hk (fun⟨i,r,h,_⟩=> by simp[cF] at h) (fun h=> h)⟩
end Go.Gv
