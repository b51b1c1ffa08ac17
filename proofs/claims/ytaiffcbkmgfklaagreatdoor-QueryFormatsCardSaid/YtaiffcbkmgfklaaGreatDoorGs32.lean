/- A part of the framework and of the walks: W67 W3 W30 C3 W38 V9 V10 V14 W79 W84 Asm5 C10. -/
import Derived.Recover
import Derived.Tactics2
import Derived.Test.YtaiffcbkmgfklaaGreatDoorGs28
import Derived.Test.YtaiffcbkmgfklaaGreatDoorGs31
import Derived.Test.YtaiffcbkmgfklaaGreatDoorGs22
import Derived.Test.YtaiffcbkmgfklaaGreatDoorGs19
import Derived.Test.YtaiffcbkmgfklaaGreatDoorGs18
import Derived.Test.YtaiffcbkmgfklaaGreatDoorGs17
import Derived.Test.YtaiffcbkmgfklaaGreatDoorGs26
import Derived.Test.YtaiffcbkmgfklaaGreatDoorGs21
import Derived.Test.YtaiffcbkmgfklaaGreatDoorGs29
import Derived.Test.YtaiffcbkmgfklaaGreatDoorGs30
set_option linter.unusedSimpArgs false
set_option linter.unusedVariables false
set_option maxRecDepth 100000

namespace Go.Gv
open Cod (enc dec)
open Go.Proofs
theorem OO (v2 v3 v4:Value) (w:World):CallsD Tryz.prog 27 #[v2,v3,v4] .returning w fun e u' w'=> e= .returned (.tuple #[])∧u'= .returning∧w'=w:=by
 refine callsD_of_wpS Tryz.func27 rfl fun c₀ cs hu=> ?_
 apply wpS_seq
 apply wpS_region
 simp[wpOpsS,go_sem,recoverD,hu,Tryz.ntmps27,Exit.thenS]
 apply wpS_seq
 apply wpS_region
 simp[wpOpsS,go_sem,recoverD,hu,Tryz.ntmps27,Exit.thenS]
 refine wpS_cond (t:=false) (by simp[Act.eval,Array.replicate]) ?_
 simp only[Bool.false_eq_true,if_false]
 refine wpS_of_wp (wp_skip ?_)
 cases c₀
 simp_all [bodyPostS,results,Tryz.results27]
def Ix:CC:= .reg [.op (some 2) none (.alloc 38 [(.int .i64 0),(.int .i64 0),(.string ⟨#[]⟩),(.string ⟨#[]⟩),(.string ⟨#[]⟩),(.string ⟨#[]⟩),(.bool false),(.slice none 0 0),(.string ⟨#[]⟩),(.string ⟨#[]⟩),(.int .i64 0),(.int .i64 0),(.slice none 0 0),(.int .i64 0),(.string ⟨#[]⟩),(.string ⟨#[]⟩),(.string ⟨#[]⟩),(.string ⟨#[]⟩),(.string ⟨#[]⟩),(.bool false),(.int .i64 0),(.int .i64 0),(.slice none 0 0),(.slice none 0 0),(.slice none 0 0),(.int .i64 0)]), .op (some 3) none (.alloc 3 [(.int .i64 0)]), .op (some 4) none (.alloc 39 [(.int .i64 0)])]
def Iw:CC:= .seq (.reg [.op (some 5) none (.mv (.tmp 0)), .op (some 6) none (.slen (.tmp 5)), .op (some 7) none (.cmp .gtr (.tmp 6) (.const (.int .i64 400)))])
 (.keep [0,2,3,4,7] [2,3,4] (.ite (.tmp 7) (.seq (.reg [.op (some 8) none (.build [(.int .i64 0),(.int .i64 0),(.string ⟨#[]⟩),(.string ⟨#[]⟩),(.string ⟨#[]⟩),(.string ⟨#[]⟩),(.bool false),(.slice none 0 0),(.string ⟨#[]⟩),(.string ⟨#[]⟩),(.int .i64 0),(.int .i64 0),(.slice none 0 0),(.int .i64 0),(.string ⟨#[]⟩),(.string ⟨#[]⟩),(.string ⟨#[]⟩),(.string ⟨#[]⟩),(.string ⟨#[]⟩),(.bool false),(.int .i64 0),(.int .i64 0),(.slice none 0 0),(.slice none 0 0),(.slice none 0 0),(.int .i64 0)] []), .op none none (.store none 26 (.tmp 2) (.tmp 8)), .op none none (.store none 1 (.tmp 3) (.const (.int .i64 0))), .op none none (.store none 1 (.tmp 4) (.const (.int .i64 2)))]) .ret) .skip))
def XI:CC:= .keep [0,2,3,4] [2,3,4] (.seq (.reg [.op (some 10) none (.mv (.tmp 0)), .op (some 11) none (.build [(.string ⟨#[]⟩),(.int .i64 0),(.int .i64 0),(.string ⟨#[]⟩),(.int .i64 0)] [(0,1,(.tmp 10))]), .op (some 12) none (.box 69 false (.tmp 11)),
 .op (some 13) none (.call bR [(.tmp 12)]), .op none none (.store none 26 (.tmp 2) (.tmp 13)), .op none none (.store none 1 (.tmp 3) (.const (.int .i64 0))), .op none none (.store none 1 (.tmp 4) (.const (.int .i64 0)))]) .ret)
def WH:List aK:= [.cell 2 true 26, .cell 3 false 1, .cell 4 false 1]
def qb1:Code→Option Code
 | .seq a _=> some a
 | _=> none
def qb0:Code→Option Code
 | .seq _ (.seq a _)=> some a
 | _=> none
def qbZ:Code→Option Code
 | .seq _ (.seq _ (.seq _ a))=> some a
 | _=> none
theorem TL: ((Tryz.f11.body.bind qb1).bind fun c=> bm Tryz.prog [] 14 c)=some (eB Ix):=by kernel_rfl
theorem TK: ((Tryz.f11.body.bind qb0).bind fun c=> bm Tryz.prog [] 14 c)=some (eB Iw):=by kernel_rfl
theorem qbh: ((Tryz.f11.body.bind qbZ).bind fun c=> bm Tryz.prog [] 14 c)=some (eB XI):=by kernel_rfl
theorem qbg:Tryz.f11.results.toList.mapM (fC Tryz.prog)=some WH:=by kernel_rfl
def TS (F:Sg→ae→Prop):Ex→Sg→ae→Prop
 | .norm,σ,H=> F σ H
 | _,_,_=> False
def VP (S:Nat→Spc) (Q:D→ae→Prop) (ds:List D) (H0:ae):Prop:=
 vc S Ix (TS fun σ H=> vc S Iw (TS fun σ H=> vc S XI (fun e σ H=> match e with | .ret=> l8 WH σ H fun ds=> Q (dt ds) H | _=> False) (mG σ 9 .any) H) σ H) (eS ds) H0
theorem St.defer {E:pR} {σ:Sg} {H:ae} {a:Act} {w:World} (h:St E σ H a w) (x:Value) (dl:List Deferred) (h9:9 < E.N):St { E with ds:=dl } (mG σ 9 .any) H { (a.put (some 9) x) with defers:=dl } w:=by
 obtain⟨h1,h2,tp,h3,h4⟩:=h
 refine⟨rfl,by rw[←h2];simp[Act.put],tp,⟨h3.1,h3.2,h3.3,h3.4,h3.5,h3.6,h3.7⟩,fun t=> ?_⟩
 have:=PH (σ:=σ) (Q:=R tp (cL E.O tp H w) w) (a:=a) h2 h4 (some 9) (fun t ht=> by cases ht;exact h9) (x:=x) (d:= .any) (.any x) t
 exact this
theorem Om {S:Nat→Spc} (hS: ∀f,Tri Tryz.prog f (S f).pt) (E:pR) (ds':List D) (H0:ae) (Q:D→ae→Prop) (vs:List Value) (w:World) (R:Ending→World→Prop) (hds:E.ds= []) (hN:E.N=14)
 (hst:St E (eS ds') H0 { tmps:=vs.toArray++Array.replicate (Tryz.f11.ntmps -vs.toArray.size) undef,defers:= [] } w) (hV:VP S Q ds' H0)
 (hfin: ∀ (a':Act) (w':World) (σ':Sg) (H':ae) (dl:List Deferred),St { E with ds:=dl } σ' H' a' w'→(l8 WH σ' H' fun ds=> Q (dt ds) H')→ ∃v,(results Tryz.f11 a'.tmps).run Tryz.prog w'= .ok v w'∧R (.returned v) w'):Calls Tryz.prog 11 vs.toArray w R:=by
 have hmf: ∀ (fn:Fn) (first cap:Array Value) (w:World),(Instr.makeFunc fn first cap).run Tryz.prog w= .ok (.func fn first cap) w:=fun _ _ _ _=> rfl
 refine calls_of_wp_defers Tryz.func11 rfl ?_
 apply wp_seq
 refine wp_mono (jc (E:=E) (im:= []) hS ay Ix _ (by rw[hN];exact TL) _ _ _ _ _ hst hV) ?_
 intro e a1 w1 hP
 cases e with
 | normal=> ?_
 | ret=> obtain⟨_,_,_,h⟩:=hP;exact h.elim
 | exit i=> obtain⟨_,_,_,h⟩:=hP;exact h.elim
 | _=> exact hP.elim
 obtain⟨σ1,H1,hst1,hV1⟩:=hP
 apply wp_seq
 refine wp_mono (jc (E:=E) (im:= []) hS ay Iw _ (by rw[hN];exact TK) _ _ _ _ _ hst1 hV1) ?_
 intro e a2 w2 hP
 cases e with
 | normal=> ?_
 | ret=> obtain⟨_,_,_,h⟩:=hP;exact h.elim
 | exit i=> obtain⟨_,_,_,h⟩:=hP;exact h.elim
 | _=> exact hP.elim
 obtain⟨σ2,H2,hst2,hV2⟩:=hP
 apply wp_seq
 have hsz:a2.tmps.size=14:=by rw[hst2.2.1,hN]
 have hde:a2.defers= []:=by rw[hst2.1,hds]
 refine wp_region_list ?_
 refine wpList_plain rfl fun K hK=> ?_
 simp[go_sem,hmf]
 refine hK _ _ ?_
 refine wpList_plain rfl fun K hK=> ?_
 simp[go_sem,hsz]
 refine hK _ _ ?_
 refine wpList_nil ?_
 have hst3:=St.defer hst2 (Value.func (Fn.func 27) #[] #[a2.tmps[2],a2.tmps[3],a2.tmps[4]]) ({ target:=Target.fn (Fn.func 27) #[a2.tmps[2],a2.tmps[3],a2.tmps[4]],args:= #[] } ::a2.defers) (by rw[hN];decide)
 refine wp_mono (jc (E:= { E with ds:= { target:=Target.fn (Fn.func 27) #[a2.tmps[2],a2.tmps[3],a2.tmps[4]],args:= #[] } ::a2.defers }) (im:= []) hS ay XI _ (by show bm _ _ E.N _=_;rw[hN];exact qbh) _ _ _ _ _ hst3 hV2) ?_
 intro e a3 w3 hP
 cases e with
 | ret=> ?_
 | normal=> obtain⟨_,_,_,h⟩:=hP;exact h.elim
 | exit i=> obtain⟨_,_,_,h⟩:=hP;exact h.elim
 | _=> exact hP.elim
 obtain⟨σ3,H3,hst4,hres⟩:=hP
 show Leaves Tryz.prog Tryz.f11 a3.tmps R a3.defers .returning w3
 have hd3:a3.defers= { target:=Target.fn (Fn.func 27) #[a2.tmps[2],a2.tmps[3],a2.tmps[4]],args:= #[] } ::a2.defers:=hst4.1
 rw[hd3,hde]
 refine leaves_cons (f:=27) (args:= #[a2.tmps[2],a2.tmps[3],a2.tmps[4]]) (by simp) (by simp[go_sem]) ?_
 refine(OO _ _ _ w3).mono ?_
 rintro e u' w'' ⟨rfl,rfl,rfl⟩
 obtain⟨v,h1,h2⟩:=hfin a3 w'' σ3 H3 _ hst4 hres
 exact⟨v,h1,h2⟩
theorem MY:fp Tryz.prog eW:=oa Tryz.func11 (by kernel_rfl) rfl
end Go.Gv

namespace Go.Gv
open Cod (enc dec)
variable {S S0:Nat→Spc}
end Go.Gv

namespace Go.Gv
open Cod (enc dec)
variable {S S0:Nat→Spc}
end Go.Gv

namespace Go.Gv
open Go.Proofs
end Go.Gv

namespace Go.Gv
open Cod (enc dec)
variable {S S0:Nat→Spc}
end Go.Gv

namespace Go.Gv
end Go.Gv

namespace Go.Gv
theorem mF {s:B} {c d:UInt8} (h:s=⟨#[c]⟩∨s=⟨#[c,d]⟩) (hc:yf c.toNat=true) (hd:yf d.toNat=true):ft s=true:=by
 refine(yC s).2 ?_
 have hc':K7 c.toNat=true:=by unfold K7;rw[hc];rfl
 have hd':K7 d.toNat=true:=by unfold K7;rw[hd];rfl
 rcases h with rfl | rfl
 ·refine⟨by show 1≤1;decide,by show 1≤32;decide,fun x hx=> ?_,fun k x hx=> ?_⟩
  ·cases hx;exact hc
  ·rcases k with _ | k
   ·cases hx;exact hc'
   ·simp at hx
 ·refine⟨by show 1≤2;decide,by show 2≤32;decide,fun x hx=> ?_,fun k x hx=> ?_⟩
  ·cases hx;exact hc
  ·rcases k with _ | _ | k
   ·cases hx;exact hc'
   ·cases hx;exact hd'
   ·simp at hx
theorem EC:ft qcg=true∧ft XR=true∧ft qeb=true∧ft qaz=true∧ft qay=true:=
 ⟨mF (c:=115) (d:=115) (.inl rfl) (by decide) (by decide),mF (c:=110) (d:=112) (.inr rfl) (by decide) (by decide),mF (c:=116) (d:=116) (.inl rfl) (by decide) (by decide),
  mF (c:=120) (d:=120) (.inl rfl) (by decide) (by decide),mF (c:=121) (d:=121) (.inl rfl) (by decide) (by decide)⟩
theorem Rs:Jm []:=fun l h=> by simp at h
end Go.Gv

namespace Go.Gv
end Go.Gv

namespace Go.Gv
open Cod (enc dec)
variable {S S0:Nat→Spc}
def Uk:Qry:=⟨pz,GlobE, [],0⟩
theorem Uj:WP [] 1 pz:= .inr (.inl ⟨.inl rfl,rfl,rfl,rfl,rfl,rfl,_,_,rfl,qaL (.inr ⟨.inl rfl,rfl,rfl,by simp[pQ,qcg],rfl,rfl,rfl⟩),qaL (.inl ⟨rfl, .inl rfl,rfl,rfl,rfl,rfl⟩)⟩)
theorem I1:sa ft pz=true:=Pu Rs EC 1 _ Uj (by omega)
theorem t7:aW pz= [⟨1,⟨2,⟨#[119,111,114,100]⟩,E0,⟨#[84,104,101]⟩,E0,true, []⟩,E0,E0,0,0, []⟩]:=by
 rw[bJ,if_neg (by decide)]
 show[_,_].flatMap aW=_
 simp only[List.flatMap_cons,List.flatMap_nil,List.append_nil]
 rw[bJ,if_neg (by decide),bJ,if_pos rfl]
 rfl
theorem F8:vS 10 pz=some KG:=by kernel_rfl
theorem Rt:Z7 10 Uk:=by
 have h:=I1
 unfold sa at h
 simp only[Bool.and_eq_true] at h
 refine⟨by rw[Bool.and_eq_true];exact h.1.1,rfl,rfl,rfl,⟨?_,?_⟩,?_,KG,F8,by unfold mi;decide,by decide⟩
 ·show 0+ (aW pz).length≤_
  rw[t7]
  decide
 ·intro y hy
  have hy:y∈aW pz:=hy
  rw[t7] at hy
  simp only[List.mem_singleton] at hy
  subst hy
  exact⟨1,by show 0≤1000000;decide,fun k hk=> by simp at hk⟩
 ·intro x hx
  have hx:x∈ (aW pz).map wZ:=hx
  rw[t7] at hx
  simp only[List.map_cons,List.map_nil,List.mem_singleton] at hx
  subst hx
  exact⟨rfl,rfl,rfl,rfl⟩
theorem OI:mL pz=2:=by kernel_rfl
abbrev Bh:Spc:=cY a0 (fun _=> True) (enc (X:=Bool)) fun _ y=> y=true
end Go.Gv

namespace Go.Gv
open Cod (enc dec)
variable {S S0:Nat→Spc}
theorem Wj {lb:List B} : ∀n p,WP lb n p→ ∀y∈aW p,wZ y=y:=by
 refine yu fun n p hp ih=> fun y hy=> ?_
 rw[bJ] at hy
 split at hy
 ·rename_i h1
  simp only[List.mem_singleton] at hy
  subst hy
  rcases qa hp with(⟨_,_,h3,h4,h5,h6⟩ | ⟨h,_⟩) | ⟨m,rfl,(⟨h,_⟩ | ⟨h,_⟩)⟩
  ·obtain⟨op,c,l,r,mn,mx,ks⟩:=y
   simp only at h3 h4 h5 h6
   subst h3;subst h4;subst h5;subst h6
   rfl
  ·omega
  ·omega
  ·omega
 ·obtain⟨k,hk,hy⟩:=List.mem_flatMap.1 hy
  obtain⟨m,_,_,h⟩:=ih k hk
  exact h y hy
theorem NK {lb:List B} {n:Nat} {p:Pat} (h:WP lb n p):dy p=aW p:=by
 unfold dy
 conv=> rhs;rw[←List.map_id (aW p)]
 exact List.map_congr_left fun y hy=> Wj n p h y hy
theorem Vj: ∀ (n:Nat) (c:Cond),CS n c→KC (n+1) c
 | 0,c,h=> by
   have h:c.kids= []:=h
   exact⟨by rw[h];exact Nat.zero_le _,fun k hk=> by rw[h] at hk;simp at hk⟩
 | n+1,c,h=> ⟨by have:=h.1;omega,fun k hk=> Vj n k (h.2 k hk)⟩
theorem Uu {n:Nat} {q:Qry} (h:GQ n q) (hn:n≤5):xI q.pat≤64:=by
 obtain⟨lb,_,hw⟩:=h.lab
 have:=(Pt _ _ hw hn).2.2
 have h2:2^ (n+1)≤64:=Nat.pow_le_pow_right (n:=2) (by omega) (show n+1≤6 by omega)
 omega
theorem Zn {n:Nat} {q:Qry} (h:GQ n q) (hn:n≤5):Yt q.pat []:=by
 have h1:=Uu h hn
 have h2:=F7 q.pat
 exact⟨by simp;omega,fun y hy=> ⟨2,Vj 1 _ (Yb (h.cond y hy))⟩⟩
theorem PW {n:Nat} {q:Qry} (h:GQ n q) (hn:n≤5):sa ft q.pat=true:=by
 obtain⟨lb,hl,hw⟩:=h.lab
 exact Pu hl EC n _ hw (by omega)
end Go.Gv

namespace Go.Gv
open Go.Proofs Cod
theorem fu {P:Program} {f:Nat} {A:Nat→PT} {A':PT} (h: ∀n,Tri P f (A n)) (hs: ∀d ds H K,A' d ds H K→ ∃n,A n d ds H K):Tri P f A':=
 fun O tp w vs ds H d K a b c e g hA=> (hs d ds H K hA).elim fun n hn=> h n O tp w vs ds H d K a b c e g hn
theorem vA {P:Program} {f:Nat} {A:PT} (hs: ∀d ds H K,¬A d ds H K):Tri P f A:=fun O tp w vs ds H d K a b c e g hA=> absurd hA (hs d ds H K)
theorem gx {X Y:Type} {A:lB X} {pre:Nat→X→Prop} {pre':X→Prop} {er:Y→D} {post:X→Y→Prop} (hx: ∀x,pre' x→ ∃n,pre n x): ∀d ds H K,(cY A pre' er post).pt d ds H K→ ∃n,(cY A (pre n) er post).pt d ds H K:=by
 intro d ds H K h
 rw[tj] at h
 cases e:A.dec ds with
 | none=> rw[e] at h;exact h.elim
 | some x=>
   rw[e] at h
   obtain⟨h1,h2⟩:=h
   obtain⟨n,hn⟩:=hx x h1
   exact⟨n,by rw[tj,e];exact⟨hn,h2⟩⟩
theorem cM {P:Program} {f:Nat} {X Y:Type} {A:lB X} {pre:X→Prop} {er:Y→D} {post:X→Y→Prop} (hx: ∀x,¬pre x):Tri P f (cY A pre er post).pt:=vA fun d ds H K h=> by
 rw[tj] at h
 cases e:A.dec ds with
 | none=> rw[e] at h;exact h.elim
 | some x=> rw[e] at h;exact hx x h.1
theorem X3 {p:Pat} (h:fP p≤0):False:=by rw[PK] at h;omega
theorem qhk {p:Cond} (h:fk p≤0):False:=by rw[uC] at h;omega
theorem D1 {P:Program} {f:Nat} {Z:Type} {tw el:Nat} {A:lB Z} {r:D} {T:Z→Option ByteArray} (hx: ∀z,T z=none):Tri P f (QD tw el A r T).pt:=vA fun d ds H K ⟨id,b,x,z,ds',h1,h2,h3,h4,h5,hp,h7⟩=> by
 obtain⟨t,ht,_⟩:=hp
 rw[hx] at ht
 cases ht
theorem Px:Tri Tryz.prog oo (xe).pt:=
 ak (S:=cj []) (ap ah) TJ (fun _=> Nat.le_of_ble_eq_true rfl) (Wn)
theorem jm:Tri Tryz.prog am s_m_Next.pt:=SX (S:=cj [(oo,xe)]) (ap (ac Px ah)) rfl FW (by decide)
theorem WC:Tri Tryz.prog AB s_m_New.pt:=WB (N0 (S:=cj []) (ap ah) TI (by decide) Wm)
theorem zI:Tri Tryz.prog gW (kJ).pt:=
 ak (S:=cj [(oo,xe)]) (ap (ac Px ah)) Ri (fun _=> Nat.le_of_ble_eq_true rfl) (QR rfl)
theorem uG:Tri Tryz.prog eC (vK).pt:=
 ak (S:=cj []) (ap ah) BK (fun _=> Nat.le_of_ble_eq_true rfl) (Dl)
theorem Do:Tri Tryz.prog jh (E1).pt:=
 ak (S:=cj [(eC,vK)]) (ap (ac uG ah)) BJ (fun _=> Nat.le_of_ble_eq_true rfl) (Dk rfl)
theorem yE:Tri Tryz.prog eM (EV).pt:=
 ak (S:=cj [(eC,vK),(jh,E1)]) (ap (ac uG (ac Do ah))) xS (fun _=> Nat.le_of_ble_eq_true rfl) (yx rfl rfl)
theorem JI:Tri Tryz.prog m7 (Oa).pt:=
 ak (S:=cj []) (ap ah) H9 (fun _=> Nat.le_of_ble_eq_true rfl) (Jy)
theorem JL:Tri Tryz.prog iQ (J3).pt:=
 ak (S:=cj [(m7,Oa)]) (ap (ac JI ah)) Ib (fun _=> Nat.le_of_ble_eq_true rfl) (JB rfl)
theorem HX:Tri Tryz.prog hU (D4).pt:=
 ak (S:=cj [(eM,EV)]) (ap (ac yE ah)) FL (fun _=> Nat.le_of_ble_eq_true rfl) (HF rfl)
theorem EF:Tri Tryz.prog gl (zT).pt:=
 ak (S:=cj []) (ap ah) Dz (fun _=> Nat.le_of_ble_eq_true rfl) (Es)
def Qt:Nat→Spc:=cj [(iQ,J3),(hU,D4),(gl,zT)]
def qhV (n:Nat):Nat→Spc:=cj [(fl,Ti n)]
theorem K6 {S:Nat→Spc} (h: ∀f,Tri Tryz.prog f (S f).pt):Tri Tryz.prog aC (tB S).pt:=
 ak (S:=cj [(eh,Tl S)]) (ap (ac (ak (S:=S) h pT (fun _=> Nat.le_of_ble_eq_true rfl) qc) ah)) nL (fun _=> Nat.le_of_ble_eq_true rfl) (ov rfl)
theorem uI: ∀n,Tri Tryz.prog dS (A8 n).pt
 | 0=> cM fun x h=> X3 h.1
 | n+1=>
   have h1:Tri Tryz.prog fl (Ti n).pt:=ak (S:=cj [(dS,A8 n)]) (ap (ac (uI n) ah)) yY (fun _=> Nat.le_of_ble_eq_true rfl) (zw n rfl)
   ak (S:=cj [(aC,tB (qhV n))]) (ap (ac (K6 (S:=qhV n) (ap (ac h1 ah))) ah)) BE (fun _=> Nat.le_of_ble_eq_true rfl) (Df (S0:=qhV n) n rfl rfl)
theorem Dn:Tri Tryz.prog dS (yJ).pt:=
 fu (fun n=> uI n) (gx (fun x h=> ⟨fP x.1,Nat.le_refl _,h⟩))
def qh0 (n:Nat):Nat→Spc:=cj [(gG,Tj Qt n)]
def qhZ (n:Nat):Nat→Spc:=cj [(aC,tB (qh0 n)),(iQ,J3),(hU,D4),(gl,zT)]
theorem Xa (n:Nat) (d:D) (f:Pat→Bool) (h:FunIs Qt d f):FunIs (qhZ n) d f:=by
 obtain⟨g,c,pc,a,b,e⟩:=h
 refine⟨g,c,pc,a,?_,e⟩
 by_cases hg:g=aC
 ·subst hg
  have:Qt aC=Spc.none:=rfl
  rw[this] at b
  cases b
 ·rw[←b]
  unfold qhZ Qt
  rw[cj,if_neg hg]
theorem yk: ∀n,Tri Tryz.prog cS (J5 Qt n).pt
 | 0=> cM fun x h=> by obtain⟨f,h1,h2⟩:=h;exact X3 h2
 | n+1=>
   have h1:Tri Tryz.prog gG (Tj Qt n).pt:=ak (S:=cj [(cS,J5 Qt n)]) (ap (ac (yk n) ah)) BH (fun _=> Nat.le_of_ble_eq_true rfl) (Dh (S0:=Qt) n rfl)
   ak (S:=qhZ n) (ap (ac (K6 (S:=qh0 n) (ap (ac h1 ah))) (ac JL (ac HX (ac EF ah))))) FR (fun _=> Nat.le_of_ble_eq_true rfl) (HJ (S0:=qh0 n) (N:=Qt) n (Xa n) rfl rfl)
theorem yh:Tri Tryz.prog cS (vJ Qt).pt:=
 fu (fun n=> yk n) (gx (fun x h=> by obtain⟨f,h⟩:=h;exact⟨fP x.1,f,h,Nat.le_refl _⟩))
theorem rT:Tri Tryz.prog d9 (tA).pt:=
 ak (S:=cj [(dS,yJ),(cS,vJ Qt)]) (ap (ac Dn (ac yh ah))) FV (fun _=> Nat.le_of_ble_eq_true rfl) (HQ (N:=Qt) rfl rfl rfl)
theorem HW:Tri Tryz.prog lK (ph).pt:=
 ak (S:=cj [(d9,tA),(cS,vJ Qt)]) (ap (ac rT (ac yh ah))) FJ (fun _=> Nat.le_of_ble_eq_true rfl) (HD (N:=Qt) rfl rfl rfl rfl)
theorem Ab: ∀n,Tri Tryz.prog fS (Oc n).pt
 | 0=> cM fun x h=> X3 h.1
 | n+1=> ak (S:=cj [(fS,Oc n)]) (ap (ac (Ab n) ah)) Ia (fun _=> Nat.le_of_ble_eq_true rfl) (Jz n rfl)
theorem JJ:Tri Tryz.prog fS (JV).pt:=
 fu (fun n=> Ab n) (gx (fun x h=> ⟨fP x,Nat.le_refl _,h⟩))
theorem JM:Tri Tryz.prog m8 (yK).pt:=
 ak (S:=cj [(lK,ph),(fS,JV)]) (ap (ac HW (ac JJ ah))) Ie (fun _=> Nat.le_of_ble_eq_true rfl) (JC rfl rfl)
theorem vv:Tri Tryz.prog fe (qi).pt:=
 ak (S:=cj []) (ap ah) DB (fun _=> Nat.le_of_ble_eq_true rfl) (Eu)
theorem rS:Tri Tryz.prog cA (nu).pt:=
 ak (S:=cj []) (ap ah) FS (fun _=> Nat.le_of_ble_eq_true rfl) (HK)
theorem HZ:Tri Tryz.prog hY (Be).pt:=
 ak (S:=cj []) (ap ah) FN (fun _=> Nat.le_of_ble_eq_true rfl) (HH)
theorem HY:Tri Tryz.prog fY (EZ).pt:=
 ak (S:=cj [(fe,qi),(cA,nu)]) (ap (ac vv (ac rS ah))) FM (fun _=> Nat.le_of_ble_eq_true rfl) (HG rfl rfl)
def qep:Nat→Spc:=cj [(hY,Be),(fY,EZ),(cA,nu)]
theorem LJ:Tri Tryz.prog kf (J1 qep).pt:=ak (S:=qep) (ap (ac HZ (ac HY (ac rS ah)))) Kv (fun _=> Nat.le_of_ble_eq_true rfl) Ly
theorem mH:Tri Tryz.prog ch (ml).pt:=
 ak (S:=cj []) (ap ah) my (fun _=> Nat.le_of_ble_eq_true rfl) (sB)
theorem xw:Tri Tryz.prog fG (ml).pt:=
 ak (S:=cj [(ch,ml)]) (ap (ac mH ah)) vV (fun _=> Nat.le_of_ble_eq_true rfl) (xq rfl)
theorem xv:Tri Tryz.prog fF (s_indexByte).pt:=
 ak (S:=cj [(cX,s_indexByte)]) (ap (ac sH ah)) vU (fun _=> Nat.le_of_ble_eq_true rfl) (xp rfl)
theorem nl:Tri Tryz.prog bX (mO).pt:=
 ak (S:=cj []) (ap ah) tP (fun _=> Nat.le_of_ble_eq_true rfl) (uS)
theorem rR:Tri Tryz.prog dK (tv).pt:=
 ak (S:=cj [(bX,mO)]) (ap (ac nl ah)) rk (fun _=> Nat.le_of_ble_eq_true rfl) (rQ rfl)
theorem EG:Tri Tryz.prog kg (yL).pt:=
 ak (S:=cj []) (ap ah) DA (fun _=> Nat.le_of_ble_eq_true rfl) (Et)
theorem Cw:Tri Tryz.prog iD (zU).pt:=
 ak (S:=cj [(kf,J1 qep),(fe,qi),(cA,nu),(kg,yL),(fG,ml),(fF,s_indexByte)]) (ap (ac LJ (ac vv (ac rS (ac EG (ac xw (ac xv ah))))))) Kw (fun _=> Nat.le_of_ble_eq_true rfl) (Lz (S0:=qep) rfl rfl rfl rfl rfl rfl rfl rfl rfl)
theorem ij:Tri Tryz.prog a8 (pS).pt:=
 jP (S:=cj [(iD,zU)]) (ap (ac Cw ah)) wa (fun _=> Nat.le_of_ble_eq_true rfl) (Hw rfl)
theorem xy:Tri Tryz.prog fI (J0).pt:=
 jP (S:=cj [(iD,zU)]) (ap (ac Cw ah)) v8 (fun _=> Nat.le_of_ble_eq_true rfl) (Hv rfl)
theorem fD:Tri Tryz.prog aM (mN).pt:=
 jP (S:=cj []) (ap ah) v7 (fun _=> Nat.le_of_ble_eq_true rfl) (Hu)
theorem aY:Tri Tryz.prog af (cb).pt:=
 jP (S:=cj [(a8,pS),(aM,mN)]) (ap (ac ij (ac fD ah))) v6 (fun _=> Nat.le_of_ble_eq_true rfl) (Ht rfl rfl)
theorem kW:Tri Tryz.prog br (tq).pt:=
 jP (S:=cj [(dK,tv)]) (ap (ac rR ah)) vY (fun _=> Nat.le_of_ble_eq_true rfl) (Hs rfl)
theorem kX:Tri Tryz.prog bE (tr).pt:=
 jP (S:=cj [(af,cb)]) (ap (ac aY ah)) wh (fun _=> Nat.le_of_ble_eq_true rfl) (Hx rfl)
theorem yi:Tri Tryz.prog f0 (zV).pt:=
 ak (S:=cj []) (ap ah) FT (fun _=> Nat.le_of_ble_eq_true rfl) (Ww)
theorem sE:Tri Tryz.prog dZ (qj).pt:=
 ak (S:=cj []) (ap ah) Ah (fun _=> Nat.le_of_ble_eq_true rfl) (NP)
theorem uT:Tri Tryz.prog eE (Bb).pt:=
 jP (S:=cj [(aM,mN),(br,tq),(fI,J0)]) (ap (ac fD (ac kW (ac xy ah)))) tY (fun _=> Nat.le_of_ble_eq_true rfl) (C7 rfl rfl rfl)
theorem kY:Tri Tryz.prog b5 (oz).pt:=
 ak (S:=cj []) (ap ah) wj (fun _=> Nat.le_of_ble_eq_true rfl) (SA)
theorem zG:Tri Tryz.prog gS (A9).pt:=
 ak (S:=cj [(lU,s_count0)]) (ap (ac Dr ah)) yW (fun _=> Nat.le_of_ble_eq_true rfl) (zt rfl)
theorem vq:Tri Tryz.prog fb (Ba).pt:=
 ak (S:=cj [(gS,A9)]) (ap (ac zG ah)) uU (fun _=> Nat.le_of_ble_eq_true rfl) (vk rfl)
theorem lV:Tri Tryz.prog aP (lY).pt:=
 jl (S:=cj [(fb,Ba),(aa,s_wstr)]) (ap (ac vq (ac ck ah))) xK (fun _=> Nat.le_of_ble_eq_true rfl) (Jt rfl rfl)
theorem jM:Tri Tryz.prog bQ (qe).pt:=
 jl (S:=cj [(aP,lY),(aa,s_wstr)]) (ap (ac lV (ac ck ah))) uV (fun _=> Nat.le_of_ble_eq_true rfl) (En rfl rfl)
theorem xx:Tri Tryz.prog be (JS).pt:=
 jl (S:=cj [(bQ,qe),(aa,s_wstr)]) (ap (ac jM (ac ck ah))) oP (fun _=> Nat.le_of_ble_eq_true rfl) (Hp rfl rfl)
theorem vu:Tri Tryz.prog cE (Ob).pt:=
 jl (S:=cj [(be,JS),(aa,s_wstr)]) (ap (ac xx (ac ck ah))) np (fun _=> Nat.le_of_ble_eq_true rfl) (Eo rfl rfl)
theorem mU: ∀n,Tri Tryz.prog aU (qf (vS n)).pt
 | 0=> D1 fun z=> rfl
 | n+1=>
   have h1:Tri Tryz.prog bh (pM (rH (vS n))).pt:=io (S:=cj [(aU,qf (vS n))]) (ap (ac (mU n) ah)) kO (fun id b ds t h=> by unfold Hm at h;split at h <;> first | (exact Nat.le_of_ble_eq_true rfl) | cases h) (qb (vS n) rfl)
   have h2:Tri Tryz.prog aH (pL (qaa (vS n))).pt:=io (S:=cj [(aa,s_wstr),(bh,pM (rH (vS n)))]) (ap (ac ck (ac h1 ah))) iP (fun id b ds t h=> by unfold Xi at h;split at h <;> first | (exact Nat.le_of_ble_eq_true rfl) | cases h) (rC (qaa (vS n)) rfl fun g cs t h=> by
    unfold qaa at h
    split at h
    ·rename_i e;subst e;rfl
    ·cases h)
   jl (S:=cj [(cE,Ob),(aa,s_wstr),(aH,pL (qaa (vS n)))]) (ap (ac vu (ac ck (ac h2 ah)))) mo (fun _=> Nat.le_of_ble_eq_true rfl) (AV (vS n) rfl rfl rfl)
theorem vR: ∀n,Tri Tryz.prog ej (Fd n).pt
 | 0=> cM fun x h=> h
 | n+1=> ak (S:=cj [(ej,Fd n)]) (ap (ac (vR n) ah)) DE (fun _=> Nat.le_of_ble_eq_true rfl) (Ew n rfl)
theorem EH:Tri Tryz.prog ej (Bl).pt:=
 fu (fun n=> vR n) (gx (fun x h=> h))
theorem yj:Tri Tryz.prog hZ (zW).pt:=
 ak (S:=cj [(ej,Bl)]) (ap (ac EH ah)) FU (fun _=> Nat.le_of_ble_eq_true rfl) (HL rfl)
theorem vQ: ∀n,Tri Tryz.prog cg (B9 n).pt
 | 0=> vA fun d ds H K ⟨id,v,l,a,x,h1,h2,h3,h4,h5⟩=> X3 h4.1
 | n+1=> yG (S:=cj [(cg,B9 n),(hZ,zW)]) (ap (ac (vQ n) (ac yj ah))) uK (by decide) (Ev n rfl rfl)
theorem sF:Tri Tryz.prog cg i_leavesQA.pt:=fu (fun n=> vQ n) fun d ds H K ⟨id,v,l,a,x,h1,h2,h3,h4,h5⟩=> ⟨fP x,id,v,l,a,x,h1,h2,h3,⟨Nat.le_refl _,h4⟩,h5⟩
theorem vw:Tri Tryz.prog cg s_leavesQ.pt:=N3 (A3 (S:=cj [(cg,i_leavesQA),(hZ,zW)]) (ap (ac sF (ac yj ah))) uK (fun _=> Nat.le_of_ble_eq_true rfl) (Dg rfl rfl)) sF
theorem zJ:Tri Tryz.prog dB (Fc).pt:=
 ak (S:=cj []) (ap ah) qD (fun _=> Nat.le_of_ble_eq_true rfl) (zz)
theorem xE:Tri Tryz.prog bu (Bn).pt:=
 ak (S:=cj [(dB,Fc)]) (ap (ac zJ ah)) oR (fun _=> Nat.le_of_ble_eq_true rfl) (xt rfl)
theorem xD:Tri Tryz.prog bF (yR).pt:=
 ak (S:=cj []) (ap ah) oQ (fun _=> Nat.le_of_ble_eq_true rfl) (xr)
theorem A2:Tri Tryz.prog ca (Ka).pt:=
 ak (S:=cj [(bu,Bn)]) (ap (ac xE ah)) rL (fun _=> Nat.le_of_ble_eq_true rfl) (A0 rfl)
theorem zK:Tri Tryz.prog dC (Ff).pt:=
 ak (S:=cj [(bF,yR),(ca,Ka)]) (ap (ac xD (ac A2 ah))) qE (fun _=> Nat.le_of_ble_eq_true rfl) (zA rfl rfl)
theorem A1:Tri Tryz.prog cT (Bp).pt:=
 ak (S:=cj [(dC,Ff)]) (ap (ac zK ah)) rJ (fun _=> Nat.le_of_ble_eq_true rfl) (AZ rfl)
theorem JK:Tri Tryz.prog gU (Od).pt:=
 ak (S:=cj []) (ap ah) ym (fun _=> Nat.le_of_ble_eq_true rfl) (JA)
theorem H4:Tri Tryz.prog f7 (Kf).pt:=
 ak (S:=cj [(gU,Od)]) (ap (ac JK ah)) wk (fun _=> Nat.le_of_ble_eq_true rfl) (HP rfl)
theorem rj:Tri Tryz.prog b9 (Oi).pt:=
 ak (S:=cj []) (ap ah) j6 (fun _=> Nat.le_of_ble_eq_true rfl) (rh)
theorem pf:Tri Tryz.prog bw (Ok).pt:=
 ak (S:=cj [(b9,Oi)]) (ap (ac rj ah)) iB (fun _=> Nat.le_of_ble_eq_true rfl) (pe rfl)
def qhY:Nat→Spc:=cj [(cT,Bp)]
theorem EI:Tri Tryz.prog dM (Fj 10).pt:=
 ak (S:=cj [(d9,tA),(bw,Ok),(f7,Kf),(cg,s_leavesQ),(aC,tB qhY),(aU,qf (vS 10)),(cp,s_string)]) (ap (ac rT (ac pf (ac H4 (ac vw (ac (K6 (S:=qhY) (ap (ac A1 ah))) (ac (mU 10) (ac LO ah)))))))) uL (fun _=> Nat.le_of_ble_eq_true rfl) (Ez (S0:=qhY) 10 rfl rfl rfl rfl rfl rfl rfl rfl)
theorem uJ: ∀n,Tri Tryz.prog dh (yM n).pt
 | 0=> cM fun x h=> absurd h.1 (Nat.not_lt_zero _)
 | n+1=> ak (S:=cj [(am,s_m_Next),(gW,kJ),(dh,yM n)]) (ap (ac jm (ac zI (ac (uJ n) ah)))) DG (fun _=> Nat.le_of_ble_eq_true rfl) (NR n rfl rfl rfl)
theorem Dq:Tri Tryz.prog dh (vF).pt:=
 fu (fun n=> uJ n) (gx (fun x h=> h))
theorem EL:Tri Tryz.prog lL (Bg).pt:=
 ak (S:=cj [(am,s_m_Next),(dh,vF)]) (ap (ac jm (ac Dq ah))) FX (fun _=> Nat.le_of_ble_eq_true rfl) (QS rfl rfl)
theorem rG: ∀n,Tri Tryz.prog bS (tu n).pt
 | 0=> cM fun x h=> absurd h.1 (Nat.not_lt_zero _)
 | n+1=> ak (S:=cj [(am,s_m_Next),(gW,kJ),(lL,Bg),(bS,tu n)]) (ap (ac jm (ac zI (ac EL (ac (rG n) ah))))) Aj (fun _=> Nat.le_of_ble_eq_true rfl) (JE n rfl rfl rfl rfl)
theorem zL:Tri Tryz.prog bS (rW).pt:=
 fu (fun n=> rG n) (gx (fun x h=> ⟨x.2.1.toNat+1,Nat.lt_succ_self _,h⟩))
theorem CA: ∀n,Tri Tryz.prog gV (tt n).pt
 | 0=> cM fun x h=> absurd h.1 (Nat.not_lt_zero _)
 | n+1=> ak (S:=cj [(gV,tt n)]) (ap (ac (CA n) ah)) Kx (fun _=> Nat.le_of_ble_eq_true rfl) (JD n rfl)
theorem LK:Tri Tryz.prog gV (rV).pt:=
 fu (fun n=> CA n) (gx (fun x h=> by obtain⟨n,h⟩:=h;exact⟨n+1,Nat.succ_pos _,h⟩))
theorem L2: ∀n,Tri Tryz.prog m9 (Bf n).pt
 | 0=> cM fun x h=> absurd h.1 (Nat.not_lt_zero _)
 | n+1=> ak (S:=cj [(gV,rV),(m9,Bf n)]) (ap (ac LK (ac (L2 n) ah))) Rh (fun _=> Nat.le_of_ble_eq_true rfl) (QQ n rfl rfl)
theorem SU:Tri Tryz.prog m9 (yN).pt:=
 fu (fun n=> L2 n) (gx (fun x h=> by obtain⟨n,h⟩:=h;exact⟨n+1,Nat.succ_pos _,h⟩))
theorem IH: ∀n,Tri Tryz.prog gH (Gz n).pt
 | 0=> vA fun d ds H K ⟨id,v,l,a,x,h1,h2,h3,h4,h5⟩=> X3 h4.1
 | n+1=> yG (S:=cj [(gH,Gz n)]) (ap (ac (IH n) ah)) FY (by decide) (LB n rfl)
theorem Cx:Tri Tryz.prog gH i_BoundA2.pt:=fu (fun n=> IH n) fun d ds H K ⟨id,v,l,a,x,h1,h2,h3,h4,h5⟩=> ⟨fP x,id,v,l,a,x,h1,h2,h3,⟨Nat.le_refl _,h4⟩,h5⟩
theorem Q1:Tri Tryz.prog gH s_Bound2.pt:=N3 (A3 (S:=cj [(gH,i_BoundA2)]) (ap (ac Cx ah)) FY (fun _=> Nat.le_of_ble_eq_true rfl) (LD rfl)) Cx
theorem pN: ∀n,Tri Tryz.prog bO (pi n).pt
 | 0=> cM fun x h=> absurd h.1 (Nat.not_lt_zero _)
 | n+1=> ak (S:=cj [(am,s_m_Next),(gW,kJ),(bO,pi n)]) (ap (ac jm (ac zI (ac (pN n) ah)))) wl (fun _=> Nat.le_of_ble_eq_true rfl) (Dm n rfl rfl rfl)
theorem xz:Tri Tryz.prog bO (nw).pt:=
 fu (fun n=> pN n) (gx (fun x h=> h))
theorem Dp:Tri Tryz.prog ji (vG).pt:=
 ak (S:=cj [(am,s_m_Next),(gW,kJ)]) (ap (ac jm (ac zI ah))) BL (fun _=> Nat.le_of_ble_eq_true rfl) (LA rfl rfl)
theorem EJ:Tri Tryz.prog kj (yO).pt:=
 ak (S:=cj [(am,s_m_Next),(bS,rW),(gH,s_Bound2),(m9,yN),(bO,nw),(ji,vG)]) (ap (ac jm (ac zL (ac Q1 (ac SU (ac xz (ac Dp ah))))))) DH (fun _=> Nat.le_of_ble_eq_true rfl) (NS rfl rfl rfl rfl rfl rfl)
theorem Ft: ∀n,Tri Tryz.prog fA (JZ n).pt
 | 0=> cM fun x h=> qhk h
 | n+1=> ak (S:=cj [(fA,JZ n)]) (ap (ac (Ft n) ah)) Mf (fun _=> Nat.le_of_ble_eq_true rfl) (NO n rfl)
theorem EE:Tri Tryz.prog fA (zS).pt:=
 fu (fun n=> Ft n) (gx (fun x _=> ⟨fk x.1,Nat.le_refl _⟩))
theorem LH:Tri Tryz.prog o3 (vE).pt:=
 ak (S:=cj [(fA,zS)]) (ap (ac EE ah)) Kp (fun _=> Nat.le_of_ble_eq_true rfl) (Lr rfl)
theorem z8: ∀n,Tri Tryz.prog fR (EX n).pt
 | 0=> cM fun x h=> X3 h.1
 | n+1=> ak (S:=cj [(o3,vE),(fR,EX n)]) (ap (ac LH (ac (z8 n) ah))) H8 (fun _=> Nat.le_of_ble_eq_true rfl) (Jv n rfl rfl)
theorem JG:Tri Tryz.prog fR (A7).pt:=
 fu (fun n=> z8 n) (gx (fun x h=> ⟨fP x.1,Nat.le_refl _,h⟩))
theorem Aa: ∀n,Tri Tryz.prog dP (Gy n).pt
 | 0=> vA fun d ds H K ⟨id,v,l,a,x,h1,h2,h3,h4,h5⟩=> X3 h4.1
 | n+1=> yG (S:=cj [(dP,Gy n)]) (ap (ac (Aa n) ah)) yl (by decide) (Jw n rfl)
theorem vt:Tri Tryz.prog dP i_leavesA.pt:=fu (fun n=> Aa n) fun d ds H K ⟨id,v,l,a,x,h1,h2,h3,h4,h5⟩=> ⟨fP x,id,v,l,a,x,h1,h2,h3,⟨Nat.le_refl _,h4⟩,h5⟩
theorem JH:Tri Tryz.prog dP s_leaves.pt:=N3 (A3 (S:=cj [(dP,i_leavesA)]) (ap (ac vt ah)) yl (fun _=> Nat.le_of_ble_eq_true rfl) (HA rfl)) vt
theorem rF: ∀n,Tri Tryz.prog cW (JX n).pt
 | 0=> cM fun x h=> X3 h
 | n+1=> ak (S:=cj [(fA,zS),(cW,JX n)]) (ap (ac EE (ac (rF n) ah))) yX (fun _=> Nat.le_of_ble_eq_true rfl) (zu n rfl rfl)
theorem zH:Tri Tryz.prog cW (EY).pt:=
 fu (fun n=> rF n) (gx (fun x _=> ⟨fP x.1,Nat.le_refl _⟩))
theorem LI:Tri Tryz.prog o4 (JU).pt:=
 ak (S:=cj []) (ap ah) Ks (fun _=> Nat.le_of_ble_eq_true rfl) (Lu)
end Go.Gv

namespace Go.Gv
open Go.Proofs
def ll:CC:=oX [oB 4 (.mv (oS ⟨#[]⟩))] [0,1] [] (.seq (oX [oA 7 0,oB 8 (.eql false false [.str] (oT 7) (oS ⟨#[]⟩)),oA 9 8,oI 10 9 (.mv (oT 1)),oI 11 9 (.eql false false [.str] (oT 10) (oS ⟨#[]⟩)),oB 12 (.pick (oT 9) (.const (.bool true)) (oT 11))] [0,1,12] [] (.ite (oT 12) (oX [oA 13 0,oA 4 13] [4] [5] (.ret)) (.skip))) (.keep [0,1] [] (.seq (oX [oA 14 1,
 oB 15 (.slen (oT 14)),oB 16 (.eql false false [.int] (oT 15) (oN 1)),oA 17 16,oH 18 17 (.mv (oT 1)),oH 19 17 (.sidx (oT 18) (oN 0)),oH 20 17 (.cmp .lss (oT 19) (.const (.int .u8 128))),oB 21 (.pick (oT 17) (oT 20) (.const ob))] [0,1,21] [] (.ite (oT 21) (oX [oA 22 0,oA 23 1,oB 24 (.sidx (oT 23) (oN 0)),oZ 25 eg [oT 22,oT 24],oA 4 25] [4] [5] (.ret)) (.skip)))
 (.keep [0,1] [] (.seq (oX [oA 27 1,oZ 28 um [oT 27],oA 26 28,oB 29 (.ext (oT 26) 0),oB 30 (.ext (oT 26) 1),
 oB 5 (.alloc xF [ob,ob,ob,ob,ob,ob,ob,ob,ob,ob,ob,ob,ob,ob,ob,ob,ob,ob,ob,ob,ob,ob,ob,ob,ob,ob,ob,ob,ob,ob,ob,ob,ob,ob,ob,ob,ob,ob,ob,ob,ob,ob,ob,ob,ob,ob,ob,ob,ob,ob,ob,ob,ob,ob,ob,ob,ob,ob,ob,ob,ob,ob,ob,ob,ob,ob,ob,ob,ob,ob,ob,ob,ob,ob,ob,ob,ob,ob,ob,ob,ob,ob,ob,ob,ob,ob,ob,ob,ob,ob,ob,ob,ob,ob,ob,ob,ob,ob,ob,ob,ob,ob,ob,ob,ob,ob,ob,ob,ob,ob,ob,ob,ob,ob,ob,ob,ob,ob,ob,ob,ob,ob,ob,ob,ob,ob,ob,ob,ob,ob,ob,ob,ob,ob,ob,ob,ob,ob,ob,ob,ob,ob,ob,ob,ob,ob,ob,ob,ob,ob,ob,ob,ob,ob,ob,ob,ob,ob,ob,ob,ob,ob,ob,ob,ob,ob,ob,ob,ob,ob,ob,ob,ob,ob,ob,ob,ob,ob,ob,ob,ob,ob,ob,ob,ob,ob,ob,ob,ob,ob,ob,ob,ob,ob,ob,ob,ob,ob,ob,ob,ob,ob,ob,ob,ob,ob,ob,ob,ob,ob,ob,ob,ob,ob,ob,ob,ob,ob,ob,ob,ob,ob,ob,ob,ob,ob,ob,ob,ob,ob,ob,ob,ob,ob,ob,ob,ob,ob,ob,ob,ob,ob,ob,ob,ob,ob,ob,ob,ob,ob,ob,ob,ob,ob,ob,ob]),
 oF 256 5 29,oA 6 30] [0,1,5,6] [5] (oX [oA 31 6] [0,1,5,31] [5] (.ite (oT 31) (oX [oA 32 0,oZ 33 sW [oT 32,oT 5],oA 4 33] [4] [5] (.ret)) (.skip)))) (.keep [0,1] [] (oX [oA 34 0,oA 35 1,oZ 36 rA [oT 34,oT 35],oA 4 36] [4] [5] (.ret))))))))
def kZ:List aK:= [.tmp 4]
def xT:List Nat:= []
theorem xJ:aS Tryz.prog gk xT ll kZ 37:=aA ay (by kernel_rfl)
-- strings_trimLeftByte while id=0: live [0:s, 1:c] changed [0] res []
def iw:CC:=oX [oB 4 (.mv (oS ⟨#[]⟩))] [0,1] [] (.seq (.block 0 (.loop 1 (.seq (oX [oA 5 0,oB 6 (.slen (oT 5)),oB 7 (.cmp .gtr (oT 6) (oN 0)),oA 8 7,oH 9 8 (.mv (oT 0)),oH 10 8 (.sidx (oT 9) (oN 0)),oH 11 8 (.mv (oT 1)),oH 12 8 (.eql false false [.int] (oT 10) (oT 11)),oB 13 (.pick (oT 8) (oT 12) (.const ob))] [0,1,13] [] (.ite (oT 13) (.skip) (.exit 0)))
 (.keep [0,1] [] (.block 1 (.reg [oA 14 0,oB 15 (.sslice (oT 14) (some (oN 1)) none),oA 0 15])))))) (.keep [0] [] (oX [oA 16 0,oA 4 16] [4] [] (.ret))))
def ip:List aK:= [.tmp 4]
def sT:List Nat:= []
theorem sR:aS Tryz.prog eg sT iw ip 17:=aA ay (by kernel_rfl)
-- strings_TrimLeft_1: no such function
end Go.Gv
