/- A part of the framework and of the walks: W93 Asm6 T30 C6 W94. -/
import Derived.Test.YtaiffcbkmgfklaaGreatDoorGt37
import Derived.Test.YtaiffcbkmgfklaaGreatDoorGt34
import Derived.Test.YtaiffcbkmgfklaaGreatDoorGt33
import Derived.Test.YtaiffcbkmgfklaaGreatDoorGt22
import Derived.Test.YtaiffcbkmgfklaaGreatDoorGt35
import Derived.Test.YtaiffcbkmgfklaaGreatDoorGt17
set_option linter.unusedSimpArgs false
set_option linter.unusedVariables false
set_option maxRecDepth 100000
set_option linter.unusedSectionVars false

namespace Go.Gv
open Cod (enc dec)
open Go.Proofs
theorem NO {H:aa} {r:D} {q:Qry} {a b:Int} (h:FrzTo H r (enc q)):FrzTo H (.tup [r, .v (.int .i64 a), .v (.int .i64 b)]) (VF (Y:=Qry) (Z:=Int) (W:=Int) (q,a,b)):=by
 refine .tup rfl fun k x y hx hy=> ?_
 rcases k with _ | _ | _ | k
 ·cases hx;cases hy;exact h
 ·cases hx;cases hy;exact .same _
 ·cases hx;cases hy;exact .same _
 ·simp at hx
theorem Wg {S:Nat→Spc} (s:B) (hs:400 < s.size) (Q:D→aa→Prop) (hQ: ∀H r,FrzTo H r (VF (Y:=Qry) (Z:=Int) (W:=Int) (Bl,0,2))→Q r H):vc S Ge (RB fun σ H=> vc S Gd (fun e σ H=> match e with | .ret=> j7 Uo σ H fun ds=> Q (cE ds) H | _=> False) σ H) (d4 ((a1 B).view s)) cu:=by
 have hsz': (400:Int) < s.size:=by omega
 simp[Ge,Gd,Uo,RB,hsz']
 exact fun b b1 b2 _=> hQ _ _ (NO (by rw[yC];exact uO (by simp[Bl,Cond0,E0])))
theorem PY {s:B} (hsz:400 < s.size) (E:ny) (Q:D→aa→Prop) (vs:List Value) (w:World) (R:Ending→World→Prop) (hds:E.ds= []) (hN:E.N=14)
 (hst:St E (d4 ((a1 B).view s)) cu { tmps:=vs.toArray++Array.replicate (Tryz.f11.ntmps -vs.toArray.size) undef,defers:= [] } w)
 (hQ: ∀H r,FrzTo H r (VF (Y:=Qry) (Z:=Int) (W:=Int) (Bl,0,2))→Q r H)
 (hfin: ∀ (a':Act) (w':World) (σ':Sg) (H':aa) (dl:List Deferred),St { E with ds:=dl } σ' H' a' w'→(j7 Uo σ' H' fun ds=> Q (cE ds) H')→ ∃v,(results Tryz.f11 a'.tmps).run Tryz.prog w'= .ok v w'∧R (.returned v) w'):Calls Tryz.prog 11 vs.toArray w R:=by
 have hV:=Wg (S:=fun _=> .none) s hsz Q hQ
 refine calls_of_wp_defers Tryz.func11 rfl ?_
 apply wp_seq
 refine wp_mono (gC (E:=E) (im:= []) (fun _=> kK _ _) ay Ge _ (by rw[hN];exact Ru) _ _ _ _ _ hst hV) ?_
 intro e a1 w1 hP
 cases e with
 | normal=> ?_
 | ret=> obtain⟨_,_,_,h⟩:=hP;exact h.elim
 | exit i=> obtain⟨_,_,_,h⟩:=hP;exact h.elim
 | _=> exact hP.elim
 obtain⟨σ1,H1,hst1,hV1⟩:=hP
 apply wp_seq
 refine wp_mono (gC (E:=E) (im:= []) (fun _=> kK _ _) ay Gd _ (by rw[hN];exact Rt) _ _ _ _ _ hst1 hV1) ?_
 intro e a2 w2 hP
 cases e with
 | ret=> ?_
 | normal=> obtain⟨_,_,_,h⟩:=hP;exact h.elim
 | exit i=> obtain⟨_,_,_,h⟩:=hP;exact h.elim
 | _=> exact hP.elim
 obtain⟨σ2,H2,hst2,hV2⟩:=hP
 show Leaves Tryz.prog Tryz.f11 a2.tmps R a2.defers .returning w2
 have hd:a2.defers= []:=by rw[hst2.1,hds]
 rw[hd]
 exact hfin a2 w2 σ2 H2 E.ds hst2 hV2
theorem qco {S:Nat→Spc} {g:Int×Int} (h:S bu=qw g 500) {s:B} {r:Rdr×Qry} (hsz: ¬400 < s.size) (hF:queryE 500 ⟨s,0,0,E0,0⟩= .ok r) (Q:D→aa→Prop) (hQ: ∀H d,FrzTo H d (VF (Y:=Qry) (Z:=Int) (W:=Int) (r.2,0,0))→Q d H):VP S Q ((a1 B).view s) cu:=by
 have hsz': ¬ (400:Int) < s.size:=by omega
 have hF':queryE 500 { txt:=s,fin:=0,kind:=0,text:= { data:= #[] },pos:=0 } = .ok r:=hF
 simp[VP,Ge,Gd,U9,Uo,RB,hsz',h,hF']
 exact fun b b1 b2 _ b3=> hQ _ _ (NO (by rw[yC];exact uO (by simp)))
abbrev s_eParse:Spc:=dt (a1 B) (fun s=> ∃r,pV s=some r) (VF (Y:=Qry) (Z:=Int) (W:=Int)) fun s y=> pV s=some y
theorem CF (hq: ∀f,TriZ (zF au f) Tryz.prog bu (qw f 500).pt):Tri Tryz.prog du s_eParse.pt:=by
 refine Ue (V:=fun Q ds' H0=> ∃s r,ds'=(a1 B).view s∧H0=cu∧pV s=some r∧ ∀H d,FrzTo H d (VF (Y:=Qry) (Z:=Int) (W:=Int) r)→Q d H) KJ (N:=14) rfl Y2 (fun x=> by simp) ?_ ?_
 ·rintro E ds' H0 Q vs w R hds hN _ hst ⟨s,r,rfl,rfl,hr,hQ⟩ hfin
  rw[pV] at hr
  split at hr
  ·rename_i hsz
   cases hr
   exact PY hsz E Q vs w R hds hN hst hQ hfin
  ·rename_i hsz
   split at hr
   ·rename_i q hF
    cases hr
    exact Mc (S:=ct [(bu,qw (0,0) 500)]) (av (ae (OI (hq (0,0))) am)) E _ _ Q vs w R hds hN hst (qco (g:=(0,0)) rfl hsz hF Q hQ) hfin
   ·rename_i g hF
    cases hr
    exact SQ hsz (hq g) hF E Q vs w R hds hN hst hQ hfin
   ·cases hr
 ·rintro s ⟨r,hr⟩
  exact⟨s,r,rfl,rfl,hr,fun H d hd=> ⟨r,hd,hr⟩⟩
end Go.Gv

namespace Go.Gv
open Go.Proofs Cod
theorem Ic {z:List PanicEntry→Prop} {P:Program} {g:Nat} {Y Z:Type} {A:jL Z} {er:Y→D} {f:Int×Int} {F:Rdr→Z→Out (Rdr×Y)} (hx: ∀s z,F s z= .no):TriZ z P g (xU A er f F).pt:=fun O tp w vs ds H d K _ _ _ _ _ ⟨id,b,x,z,ds',h1,h2,h3,h4,h5,hp,h7⟩=> by
 have hp: (F x z).fine f:=hp
 rw[hx] at hp
 exact hp.elim
theorem ra:Tri Tryz.prog dy s_trimLeftByte.pt:=ap (S:=ct []) (av am) qG (fun _=> Nat.le_of_ble_eq_true rfl) qY
theorem wt:Tri Tryz.prog fe s_trimLeft.pt:=ap (S:=ct [(dy,s_trimLeftByte)]) (av (ae ra am)) vG (fun _=> Nat.le_of_ble_eq_true rfl) (wo rfl)
theorem v9:Tri Tryz.prog eS s_globs.pt:=ap (S:=ct []) (av am) DI (fun _=> Nat.le_of_ble_eq_true rfl) TS
theorem yY:Tri Tryz.prog f9 s_function.pt:=ap (S:=ct []) (av am) yc (fun _=> Nat.le_of_ble_eq_true rfl) yV
theorem sH:Tri Tryz.prog ch s_qstrats.pt:=ap (S:=ct []) (av am) rH (fun _=> Nat.le_of_ble_eq_true rfl) Oq
theorem iL (f:Int×Int):TriZ (zF au f) Tryz.prog aZ (nK f).pt:=
 bx (S:=ct [(dc,zn f)]) (hX (LM (Ig au f) fa)) sM (fun _=> Nat.le_of_ble_eq_true rfl) rfl (by intro g hg;cases hg) (Oy rfl)
theorem bM (f:Int×Int):TriZ (zF au f) Tryz.prog ag (eH f).pt:=
 bx (S:=ct [(ac,bF),(aZ,nK f)]) (hX (aw (Tri.z aP) rfl (aw (iL f) rfl fa))) t7 (fun _=> Nat.le_of_ble_eq_true rfl) rfl (by intro g hg;cases hg) (Qn rfl rfl)
theorem dJ (f:Int×Int):TriZ (zF au f) Tryz.prog az (jf f).pt:=
 bx (S:=ct [(aU,nn),(aZ,nK f)]) (hX (aw (Tri.z fY) rfl (aw (iL f) rfl fa))) tZ (fun _=> Nat.le_of_ble_eq_true rfl) rfl (by intro g hg;cases hg) (Ql rfl rfl)
theorem eG (f:Int×Int):TriZ (zF au f) Tryz.prog aq (kS f).pt:=
 bx (S:=ct [(az,jf f)]) (hX (aw (dJ f) rfl fa)) t6 (fun _=> Nat.le_of_ble_eq_true rfl) rfl (by intro g hg;cases hg) (Qm rfl)
theorem uR (f:Int×Int):TriZ (zF au f) Tryz.prog di (C0 f).pt:=
 bx (S:=ct [(ag,eH f),(aq,kS f)]) (hX (aw (bM f) rfl (aw (eG f) rfl fa))) sQ (fun _=> Nat.le_of_ble_eq_true rfl) rfl (by intro g hg;cases hg) (OC rfl rfl)
theorem lH (f:Int×Int):TriZ (zF au f) Tryz.prog bC (qx f).pt:=
 bx (S:=ct [(dc,zn f),(az,jf f),(fe,s_trimLeft)]) (hX (LM (Ig au f) (aw (dJ f) rfl (aw (Tri.z wt) rfl fa)))) rK (fun _=> Nat.le_of_ble_eq_true rfl) rfl (by intro g hg;cases hg) (LJ rfl rfl rfl)
theorem om (f:Int×Int):TriZ (zF au f) Tryz.prog bJ (C1 f).pt:=
 bx (S:=ct [(bC,qx f)]) (hX (aw (lH f) rfl fa)) vM (fun _=> Nat.le_of_ble_eq_true rfl) rfl (by intro g hg;cases hg) (TX rfl)
theorem tb (f:Int×Int):TriZ (zF au f) Tryz.prog cN (zt f).pt:=
 bx (S:=ct [(ac,bF),(bJ,C1 f)]) (hX (aw (Tri.z aP) rfl (aw (om f) rfl fa))) rI (fun _=> Nat.le_of_ble_eq_true rfl) rfl (by intro g hg;cases hg) (LI rfl rfl)
theorem v8 (f:Int×Int):TriZ (zF au f) Tryz.prog eF (H4 f).pt:=
 bx (S:=ct [(ac,bF),(aq,kS f),(ag,eH f),(az,jf f),(a9,rh),(aU,nn),(bg,ri)]) (hX (aw (Tri.z aP) rfl (aw (eG f) rfl (aw (bM f) rfl (aw (dJ f) rfl (aw (Tri.z jo) rfl (aw (Tri.z fY) rfl (aw (Tri.z jp) rfl fa)))))))) ud (fun _=> Nat.le_of_ble_eq_true rfl) rfl (by intro g hg;cases hg) (Qr rfl rfl rfl rfl rfl rfl rfl)
theorem ZF {f:Int×Int} {N:Rdr→Out (Rdr×Cond)} (h:TriZ (zF au f) Tryz.prog bA (wG f N).pt):TriZ (zF au f) Tryz.prog dV (L8 f N).pt:=
 bx (S:=ct [(ac,bF),(bA,wG f N),(eT,xO)]) (hX (aw (Tri.z aP) rfl (aw h rfl (aw (Tri.z wb) rfl fa)))) vN (fun _=> Nat.le_of_ble_eq_true rfl) rfl (by intro g hg;cases hg) (TY N rfl rfl rfl)
theorem ZD {f:Int×Int} {N:Rdr→Out (Rdr×Cond)} (h:TriZ (zF au f) Tryz.prog bA (wG f N).pt):TriZ (zF au f) Tryz.prog cK (Nt f N).pt:=
 bx (S:=ct [(ac,bF),(dV,L8 f N),(eT,xO)]) (hX (aw (Tri.z aP) rfl (aw (ZF h) rfl (aw (Tri.z wb) rfl fa)))) wQ (fun _=> Nat.le_of_ble_eq_true rfl) rfl (by intro g hg;cases hg) (Wf N rfl rfl rfl)
theorem Sv (f:Int×Int): ∀n,TriZ (zF au f) Tryz.prog bA (wG f (iD n)).pt
 | 0=> Ic fun _ _=> rfl
 | n+1=> bx (S:=ct [(ac,bF),(bA,wG f (iD n)),(ag,eH f),(cK,Nt f (iD n)),(eF,H4 f)]) (hX (aw (Tri.z aP) rfl (aw (Sv f n) rfl (aw (bM f) rfl (aw (ZD (Sv f n)) rfl (aw (v8 f) rfl fa)))))) vK (fun _=> Nat.le_of_ble_eq_true rfl) rfl (by intro g hg;cases hg) (TV (iD n) rfl rfl rfl rfl rfl)
theorem VJ (f:Int×Int): ∀n,TriZ (zF au f) Tryz.prog cz (C7 f (nl n)).pt
 | 0=> Ic fun _ _=> rfl
 | n+1=>
   have h0:TriZ (zF au f) Tryz.prog dh (CX f (orE (iD (n+1)))).pt:=bx (S:=ct [(ac,bF),(aL,kP),(ag,eH f),(cK,Nt f (iD (n+1))),(az,jf f),(bg,ri)]) (hX (aw (Tri.z aP) rfl (aw (Tri.z ew) rfl (aw (bM f) rfl (aw (ZD (Sv f (n+1))) rfl (aw (dJ f) rfl (aw (Tri.z jp) rfl fa))))))) sO (fun _=> Nat.le_of_ble_eq_true rfl) rfl (by intro g hg;cases hg) (Oz _ rfl rfl rfl rfl rfl rfl)
   have h1:TriZ (zF au f) Tryz.prog eE (HY f (nl n) (orE (iD (n+1)))).pt:=bx (S:=ct [(ac,bF),(aq,kS f),(ag,eH f),(dh,CX f (orE (iD (n+1)))),(cz,C7 f (nl n))]) (hX (aw (Tri.z aP) rfl (aw (eG f) rfl (aw (bM f) rfl (aw h0 rfl (aw (VJ f n) rfl fa)))))) t8 (fun _=> Nat.le_of_ble_eq_true rfl) rfl (by intro g hg;cases hg) (Qo _ _ rfl rfl rfl rfl rfl)
   have h2:TriZ (zF au f) Tryz.prog dU (L7 f (nl n) (orE (iD (n+1)))).pt:=bx (S:=ct [(dc,zn f),(ac,bF),(eE,HY f (nl n) (orE (iD (n+1)))),(bC,qx f),(ag,eH f),(aL,kP)]) (hX (LM (Ig au f) (aw (Tri.z aP) rfl (aw h1 rfl (aw (lH f) rfl (aw (bM f) rfl (aw (Tri.z ew) rfl fa))))))) vJ (fun _=> Nat.le_of_ble_eq_true rfl) rfl (by intro g hg;cases hg) (TU _ _ rfl rfl rfl rfl rfl rfl)
   have h3:TriZ (zF au f) Tryz.prog dT (L6 f (nl n) (orE (iD (n+1)))).pt:=bx (S:=ct [(dO,zl),(dU,L7 f (nl n) (orE (iD (n+1)))),(dj,nJ)]) (hX (aw (Tri.z sI) rfl (aw h2 rfl (aw (Tri.z qm) rfl fa)))) vI (fun _=> Nat.le_of_ble_eq_true rfl) rfl (by intro g hg;cases hg) (TT _ _ rfl rfl rfl)
   bx (S:=ct [(ac,bF),(dT,L6 f (nl n) (orE (iD (n+1)))),(dj,nJ)]) (hX (aw (Tri.z aP) rfl (aw h3 rfl (aw (Tri.z qm) rfl fa)))) vO (fun _=> Nat.le_of_ble_eq_true rfl) rfl (by intro g hg;cases hg) (TZ _ _ rfl rfl rfl)
theorem pZ (f:Int×Int):TriZ (zF au f) Tryz.prog cT (H5 f).pt:=
 bx (S:=ct [(ac,bF),(ag,eH f),(az,jf f),(di,C0 f),(bJ,C1 f),(cN,zt f)]) (hX (aw (Tri.z aP) rfl (aw (bM f) rfl (aw (dJ f) rfl (aw (uR f) rfl (aw (om f) rfl (aw (tb f) rfl fa))))))) pg (fun _=> Nat.le_of_ble_eq_true rfl) rfl (by intro g hg;cases hg) (FH rfl rfl rfl rfl rfl rfl)
theorem uQ (f:Int×Int):TriZ (zF au f) Tryz.prog ee (CZ f).pt:=
 bx (S:=ct [(ac,bF),(aq,kS f),(ag,eH f),(az,jf f),(bg,ri),(f9,s_function),(cT,H5 f)]) (hX (aw (Tri.z aP) rfl (aw (eG f) rfl (aw (bM f) rfl (aw (dJ f) rfl (aw (Tri.z jp) rfl (aw (Tri.z yY) rfl (aw (pZ f) rfl fa)))))))) sP (fun _=> Nat.le_of_ble_eq_true rfl) rfl (by intro g hg;cases hg) (OB rfl rfl rfl rfl rfl rfl rfl)
theorem Xm {f:Int×Int} {N:Rdr→Out (Rdr×Glob)} (h:TriZ (zF au f) Tryz.prog bn (rm f N).pt):TriZ (zF au f) Tryz.prog dH (HZ f N).pt:=
 bx (S:=ct [(ac,bF),(bn,rm f N),(eS,s_globs)]) (hX (aw (Tri.z aP) rfl (aw h rfl (aw (Tri.z v9) rfl fa)))) ub (fun _=> Nat.le_of_ble_eq_true rfl) rfl (by intro g hg;cases hg) (Qq N rfl rfl rfl)
theorem VI {f:Int×Int} {N:Rdr→Out (Rdr×Glob)} (h:TriZ (zF au f) Tryz.prog bn (rm f N).pt):TriZ (zF au f) Tryz.prog cy (CY f N).pt:=
 bx (S:=ct [(ac,bF),(dH,HZ f N),(eS,s_globs)]) (hX (aw (Tri.z aP) rfl (aw (Xm h) rfl (aw (Tri.z v9) rfl fa)))) vL (fun _=> Nat.le_of_ble_eq_true rfl) rfl (by intro g hg;cases hg) (TW N rfl rfl rfl)
theorem ML (f:Int×Int): ∀n,TriZ (zF au f) Tryz.prog bn (rm f (j9 n)).pt
 | 0=> Ic fun _ _=> rfl
 | n+1=> bx (S:=ct [(ac,bF),(bn,rm f (j9 n)),(ag,eH f),(cy,CY f (j9 n)),(ee,CZ f)]) (hX (aw (Tri.z aP) rfl (aw (ML f n) rfl (aw (bM f) rfl (aw (VI (ML f n)) rfl (aw (uQ f) rfl fa)))))) ua (fun _=> Nat.le_of_ble_eq_true rfl) rfl (by intro g hg;cases hg) (Qp (j9 n) rfl rfl rfl rfl rfl)
theorem uP (f:Int×Int):TriZ (zF au f) Tryz.prog bu (qw f 500).pt:=
 bx (S:=ct [(aU,nn),(cz,C7 f (nl 500)),(ac,bF),(aL,kP),(a9,rh),(cg,qv),(cy,CY f (j9 500)),(bB,kQ),(aZ,nK f),(aq,kS f),(ch,s_qstrats)]) (hX (aw (Tri.z fY) rfl (aw (VJ f 500) rfl (aw (Tri.z aP) rfl (aw (Tri.z ew) rfl (aw (Tri.z jo) rfl (aw (Tri.z ng) rfl (aw (VI (ML f 500)) rfl (aw (Tri.z lF) rfl (aw (iL f) rfl (aw (eG f) rfl (aw (Tri.z sH) rfl fa)))))))))))) rJ (fun _=> Nat.le_of_ble_eq_true rfl) rfl (by intro g hg;have hg:g∈ [cg]:=hg;simp at hg;subst hg;exact⟨by decide,ng⟩) (OA 500 rfl rfl rfl rfl rfl rfl rfl rfl rfl rfl rfl)
theorem tu:Tri Tryz.prog du s_eParse.pt:=CF uP
end Go.Gv

namespace Go.Gv
section
variable {α β:Type} {F0:Option β} {K:α→Prop}
end
section
variable {Y Z:Type}
end
section
variable {β:Type} {F0:Option β} {K:Bool→Prop}
end
section
variable {β:Type} {F0:Option β} {K:Pst×Int→Prop}
end
end Go.Gv

namespace Go.Gv
open Go.Proofs
-- r23_scan while id=0: live [0:s, 3:out, 4:i] changed [3, 4] res [83, 121, 147, 200]
-- r23_scan while id=0: live [0:s, 3:out, 4:i] changed [4] res [83, 121, 147, 200]
-- r23_scan while id=0: live [0:s, 3:out, 4:i, 5:j] changed [5] res [83, 121, 147, 200]
-- r23_scan while id=0: live [0:s, 3:out, 4:i, 5:j] changed [5] res [83, 121, 147, 200]
-- r23_scan while id=0: live [0:s, 3:out, 4:i, 5:j, 6:v, 7:closed] changed [5, 6, 7] res [83, 121, 147, 200]
-- r23_scan range i=40 n=39 c=41 i2=66 id=5: live [0:s, 3:out, 4:i, 5:j, 38:] changed [5] res [83, 121, 147, 200]
-- r23_parser_word while id=0: live [0:p, 1:l, 7:i] changed [7] res [0]
def ov:CC:=oX [oB 0 (.mv (.const on))] [] [] (oX [oB 1 (.bslice ax 1 [oS ⟨#[]⟩,oS ⟨#[119,105,116,104,105,110]⟩,oS ⟨#[99,111,110,116,97,105,110,105,110,103]⟩,oS ⟨#[111,118,101,114,108,97,112,112,105,110,103]⟩]),oA 0 1] [0] [] (.ret))
def nM:List aK:= [.tmp 0]
def D9:List Nat:= []
theorem Dz:aS Tryz.prog jQ D9 ov nM 2:=aF ay (by kernel_rfl)
def lv:CC:=oX [oB 0 (.mv (.const on))] [] [] (oX [oB 1 (.bslice ax 1 [oS ⟨#[101,97,99,104]⟩,oS ⟨#[115,104,111,114,116,101,115,116]⟩,oS ⟨#[108,111,110,103,101,115,116]⟩,oS ⟨#[116,114,97,100,105,116,105,111,110,97,108]⟩]),oA 0 1] [0] [] (.ret))
def kU:List aK:= [.tmp 0]
def ym:List Nat:= []
theorem xZ:aS Tryz.prog f8 ym lv kU 2:=aF ay (by kernel_rfl)
-- r23_Parse while id=0: live [2:, 5:p, 6:q] changed [] res [2, 6, 16, 55]
end Go.Gv

namespace Go.Gv
open Cod (enc dec)
variable {S S0:Nat→Spc}
end Go.Gv
