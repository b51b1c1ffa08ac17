/- A part of the framework and of the walks: W79 W84 Asm5 C10. -/
import Derived.Test.YtaiffcbkmgfklaaGreatDoorGt33
import Derived.Test.YtaiffcbkmgfklaaGreatDoorGt21
import Derived.Test.YtaiffcbkmgfklaaGreatDoorGt22
import Derived.Test.YtaiffcbkmgfklaaGreatDoorGt29
import Derived.Test.YtaiffcbkmgfklaaGreatDoorGt31
import Derived.Test.YtaiffcbkmgfklaaGreatDoorGt17
set_option linter.unusedSimpArgs false
set_option linter.unusedVariables false
set_option maxRecDepth 100000

namespace Go.Gv
open Cod (enc dec)
variable {S S0:Nat→Spc}
def RV:Qry:=⟨mX,fh, [],0⟩
theorem RU:WP [] 1 mX:= .inr (.inl ⟨.inl rfl,rfl,rfl,rfl,rfl,rfl,_,_,rfl,Yx (.inr ⟨.inl rfl,rfl,rfl,by simp[pH,Z4],rfl,rfl,rfl⟩),Yx (.inl ⟨rfl, .inl rfl,rfl,rfl,rfl,rfl⟩)⟩)
theorem GT:qE eo mX=true:=Nc Pj Cq 1 _ RU (by omega)
theorem rP:aQ mX= [⟨1,⟨2,⟨#[119,111,114,100]⟩,E0,⟨#[84,104,101]⟩,E0,true, []⟩,E0,E0,0,0, []⟩]:=by
 rw[bq,if_neg (by decide)]
 show[_,_].flatMap aQ=_
 simp only[List.flatMap_cons,List.flatMap_nil,List.append_nil]
 rw[bq,if_neg (by decide),bq,if_pos rfl]
 rfl
theorem D3:tT 10 mX=some Iw:=by kernel_rfl
theorem Pk:XU 10 RV:=by
 have h:=GT
 unfold qE at h
 simp only[Bool.and_eq_true] at h
 refine⟨by rw[Bool.and_eq_true];exact h.1.1,rfl,rfl,rfl,⟨?_,?_⟩,?_,Iw,D3,by unfold o9;decide,by decide⟩
 ·show 0+ (aQ mX).length≤_
  rw[rP]
  decide
 ·intro y hy
  have hy:y∈aQ mX:=hy
  rw[rP] at hy
  simp only[List.mem_singleton] at hy
  subst hy
  exact⟨1,by show 0≤1000000;decide,fun k hk=> by simp at hk⟩
 ·intro x hx
  have hx:x∈ (aQ mX).map xe:=hx
  rw[rP] at hx
  simp only[List.map_cons,List.map_nil,List.mem_singleton] at hx
  subst hx
  exact⟨rfl,rfl,rfl,rfl⟩
theorem Mr:kM mX=2:=by kernel_rfl
abbrev zr:Spc:=dt a0 (fun _=> True) (enc (X:=Bool)) fun _ y=> y=true
end Go.Gv

namespace Go.Gv
open Cod (enc dec)
variable {S S0:Nat→Spc}
theorem WY {n:Nat} {q:Qry} (h:GQ n q) (hn:n≤5):vF q.pat≤64:=by
 obtain⟨lb,_,hw⟩:=h.lab
 have:=(Nb _ _ hw hn).2.2
 have h2:2^ (n+1)≤64:=Nat.pow_le_pow_right (n:=2) (by omega) (show n+1≤6 by omega)
 omega
theorem UR {n:Nat} {q:Qry} (h:GQ n q) (hn:n≤5):qE eo q.pat=true:=by
 obtain⟨lb,hl,hw⟩:=h.lab
 exact Nc hl Cq n _ hw (by omega)
end Go.Gv

namespace Go.Gv
open Go.Proofs Cod
theorem fS {P:Program} {f:Nat} {A:Nat→PT} {A':PT} (h: ∀n,Tri P f (A n)) (hs: ∀d ds H K,A' d ds H K→ ∃n,A n d ds H K):Tri P f A':=
 fun O tp w vs ds H d K a b c e g hA=> (hs d ds H K hA).elim fun n hn=> h n O tp w vs ds H d K a b c e g hn
theorem tA {P:Program} {f:Nat} {A:PT} (hs: ∀d ds H K,¬A d ds H K):Tri P f A:=fun O tp w vs ds H d K a b c e g hA=> absurd hA (hs d ds H K)
theorem gQ {X Y:Type} {A:jL X} {pre:Nat→X→Prop} {pre':X→Prop} {er:Y→D} {post:X→Y→Prop} (hx: ∀x,pre' x→ ∃n,pre n x): ∀d ds H K,(dt A pre' er post).pt d ds H K→ ∃n,(dt A (pre n) er post).pt d ds H K:=by
 intro d ds H K h
 rw[rb] at h
 cases e:A.dec ds with
 | none=> rw[e] at h;exact h.elim
 | some x=>
   rw[e] at h
   obtain⟨h1,h2⟩:=h
   obtain⟨n,hn⟩:=hx x h1
   exact⟨n,by rw[rb,e];exact⟨hn,h2⟩⟩
theorem cO {P:Program} {f:Nat} {X Y:Type} {A:jL X} {pre:X→Prop} {er:Y→D} {post:X→Y→Prop} (hx: ∀x,¬pre x):Tri P f (dt A pre er post).pt:=tA fun d ds H K h=> by
 rw[rb] at h
 cases e:A.dec ds with
 | none=> rw[e] at h;exact h.elim
 | some x=> rw[e] at h;exact hx x h.1
theorem Vx {p:Pat} (h:eJ p≤0):False:=by rw[Nx] at h;omega
theorem qiF {p:Cond} (h:hJ p≤0):False:=by rw[vk] at h;omega
theorem TJ {P:Program} {f:Nat} {Z:Type} {tw el:Nat} {A:jL Z} {r:D} {T:Z→Option ByteArray} (hx: ∀z,T z=none):Tri P f (TK tw el A r T).pt:=tA fun d ds H K ⟨id,b,x,z,ds',h1,h2,h3,h4,h5,hp,h7⟩=> by
 obtain⟨t,ht,_⟩:=hp
 rw[hx] at ht
 cases ht
theorem Ng:Tri Tryz.prog mo (vd).pt:=
 ap (S:=ct []) (av am) Rs (fun _=> Nat.le_of_ble_eq_true rfl) (TR)
theorem gL:Tri Tryz.prog aj s_m_Next.pt:=QG (S:=ct [(mo,vd)]) (av (ae Ng am)) rfl DP (by decide)
theorem Ug:Tri Tryz.prog yy s_m_New.pt:=Uf (LP (S:=ct []) (av am) Rr (by decide) TQ)
theorem xx:Tri Tryz.prog fM (je).pt:=
 ap (S:=ct [(mo,vd)]) (av (ae Ng am)) O5 (fun _=> Nat.le_of_ble_eq_true rfl) (Ow rfl)
theorem ss:Tri Tryz.prog dL (tK).pt:=
 ap (S:=ct []) (av am) zR (fun _=> Nat.le_of_ble_eq_true rfl) (Bc)
theorem Bf:Tri Tryz.prog gI (CW).pt:=
 ap (S:=ct [(dL,tK)]) (av (ae ss am)) zQ (fun _=> Nat.le_of_ble_eq_true rfl) (Bb rfl)
theorem wv:Tri Tryz.prog dW (CQ).pt:=
 ap (S:=ct [(dL,tK),(gI,CW)]) (av (ae ss (ae Bf am))) vP (fun _=> Nat.le_of_ble_eq_true rfl) (wq rfl rfl)
theorem HD:Tri Tryz.prog lj (LZ).pt:=
 ap (S:=ct []) (av am) FR (fun _=> Nat.le_of_ble_eq_true rfl) (Ht)
theorem HG:Tri Tryz.prog gr (HW).pt:=
 ap (S:=ct [(lj,LZ)]) (av (ae HD am)) FU (fun _=> Nat.le_of_ble_eq_true rfl) (Hw rfl)
theorem FJ:Tri Tryz.prog fT (BR).pt:=
 ap (S:=ct [(dW,CQ)]) (av (ae wv am)) DF (fun _=> Nat.le_of_ble_eq_true rfl) (Fw rfl)
theorem Cs:Tri Tryz.prog ff (xM).pt:=
 ap (S:=ct []) (av am) Bp (fun _=> Nat.le_of_ble_eq_true rfl) (Ci)
def Oe:Nat→Spc:=ct [(gr,HW),(fT,BR),(ff,xM)]
def qfF (n:Nat):Nat→Spc:=ct [(ek,Q5 n)]
theorem MQ {S:Nat→Spc} (h: ∀f,Tri Tryz.prog f (S f).pt):Tri Tryz.prog aI (wJ S).pt:=
 ap (S:=ct [(dz,Q8 S)]) (av (ae (ap (S:=S) h nq (fun _=> Nat.le_of_ble_eq_true rfl) nF) am)) lX (fun _=> Nat.le_of_ble_eq_true rfl) (mr rfl)
theorem sx: ∀n,Tri Tryz.prog db (zi n).pt
 | 0=> cO fun x h=> Vx h.1
 | n+1=>
   have h1:Tri Tryz.prog ek (Q5 n).pt:=ap (S:=ct [(db,zi n)]) (av (ae (sx n) am)) wP (fun _=> Nat.le_of_ble_eq_true rfl) (xn n rfl)
   ap (S:=ct [(aI,wJ (qfF n))]) (av (ae (MQ (S:=qfF n) (av (ae h1 am))) am)) zO (fun _=> Nat.le_of_ble_eq_true rfl) (A8 (S0:=qfF n) n rfl rfl)
theorem Be:Tri Tryz.prog db (wA).pt:=
 fS (fun n=> sx n) (gQ (fun x h=> ⟨eJ x.1,Nat.le_refl _,h⟩))
def qfJ (n:Nat):Nat→Spc:=ct [(fA,Q6 Oe n)]
def qfI (n:Nat):Nat→Spc:=ct [(aI,wJ (qfJ n)),(gr,HW),(fT,BR),(ff,xM)]
theorem UJ (n:Nat) (d:D) (f:Pat→Bool) (h:FunIs Oe d f):FunIs (qfI n) d f:=by
 obtain⟨g,c,pc,a,b,e⟩:=h
 refine⟨g,c,pc,a,?_,e⟩
 by_cases hg:g=aI
 ·subst hg
  have:Oe aI=Spc.none:=rfl
  rw[this] at b
  cases b
 ·rw[←b]
  unfold qfI Oe
  rw[ct,if_neg hg]
theorem wg: ∀n,Tri Tryz.prog cb (HX Oe n).pt
 | 0=> cO fun x h=> by obtain⟨f,h1,h2⟩:=h;exact Vx h2
 | n+1=>
   have h1:Tri Tryz.prog fA (Q6 Oe n).pt:=ap (S:=ct [(cb,HX Oe n)]) (av (ae (wg n) am)) zP (fun _=> Nat.le_of_ble_eq_true rfl) (Ba (S0:=Oe) n rfl)
   ap (S:=qfI n) (av (ae (MQ (S:=qfJ n) (av (ae h1 am))) (ae HG (ae FJ (ae Cs am))))) DJ (fun _=> Nat.le_of_ble_eq_true rfl) (Fz (S0:=qfJ n) (N:=Oe) n (UJ n) rfl rfl)
theorem wa:Tri Tryz.prog cb (tJ Oe).pt:=
 fS (fun n=> wg n) (gQ (fun x h=> by obtain⟨f,h⟩:=h;exact⟨eJ x.1,f,h,Nat.le_refl _⟩))
theorem we:Tri Tryz.prog eU (xQ).pt:=
 ap (S:=ct [(db,wA),(cb,tJ Oe)]) (av (ae Be (ae wa am))) DO (fun _=> Nat.le_of_ble_eq_true rfl) (FD (N:=Oe) rfl rfl rfl)
theorem FI:Tri Tryz.prog jS (mM).pt:=
 ap (S:=ct [(eU,xQ),(cb,tJ Oe)]) (av (ae we (ae wa am))) DE (fun _=> Nat.le_of_ble_eq_true rfl) (Fv (N:=Oe) rfl rfl rfl rfl)
theorem xX: ∀n,Tri Tryz.prog eM (L3 n).pt
 | 0=> cO fun x h=> Vx h.1
 | n+1=> ap (S:=ct [(eM,L3 n)]) (av (ae (xX n) am)) FS (fun _=> Nat.le_of_ble_eq_true rfl) (Hu n rfl)
theorem HE:Tri Tryz.prog eM (HP).pt:=
 fS (fun n=> xX n) (gQ (fun x h=> ⟨eJ x,Nat.le_refl _,h⟩))
theorem HH:Tri Tryz.prog ll (wB).pt:=
 ap (S:=ct [(jS,mM),(eM,HP)]) (av (ae FI (ae HE am))) FV (fun _=> Nat.le_of_ble_eq_true rfl) (Hx rfl rfl)
theorem tt:Tri Tryz.prog eg (nI).pt:=
 ap (S:=ct []) (av am) Br (fun _=> Nat.le_of_ble_eq_true rfl) (Ck)
theorem pK:Tri Tryz.prog bR (lK).pt:=
 ap (S:=ct []) (av am) DK (fun _=> Nat.le_of_ble_eq_true rfl) (FA)
theorem FL:Tri Tryz.prog fU (zo).pt:=
 ap (S:=ct []) (av am) DH (fun _=> Nat.le_of_ble_eq_true rfl) (Fy)
theorem FK:Tri Tryz.prog eR (CV).pt:=
 ap (S:=ct [(eg,nI),(bR,lK)]) (av (ae tt (ae pK am))) DG (fun _=> Nat.le_of_ble_eq_true rfl) (Fx rfl rfl)
def Lx:Nat→Spc:=ct [(fU,zo),(eR,CV),(bR,lK)]
theorem JA:Tri Tryz.prog iH (HV Lx).pt:=ap (S:=Lx) (av (ae FL (ae FK (ae pK am)))) Io (fun _=> Nat.le_of_ble_eq_true rfl) Jr
theorem kJ:Tri Tryz.prog bH (kt).pt:=
 ap (S:=ct []) (av am) kC (fun _=> Nat.le_of_ble_eq_true rfl) (qk)
theorem vx:Tri Tryz.prog eC (kt).pt:=
 ap (S:=ct [(bH,kt)]) (av (ae kJ am)) tW (fun _=> Nat.le_of_ble_eq_true rfl) (vq rfl)
theorem vw:Tri Tryz.prog eB (s_indexByte).pt:=
 ap (S:=ct [(cm,s_indexByte)]) (av (ae qq am)) tV (fun _=> Nat.le_of_ble_eq_true rfl) (vp rfl)
theorem lF:Tri Tryz.prog bB (kQ).pt:=
 ap (S:=ct []) (av am) rG (fun _=> Nat.le_of_ble_eq_true rfl) (sG)
theorem pJ:Tri Tryz.prog cS (rl).pt:=
 ap (S:=ct [(bB,kQ)]) (av (ae lF am)) pe (fun _=> Nat.le_of_ble_eq_true rfl) (pI rfl)
theorem Ct:Tri Tryz.prog iI (wC).pt:=
 ap (S:=ct []) (av am) Bq (fun _=> Nat.le_of_ble_eq_true rfl) (Cj)
theorem AE:Tri Tryz.prog gh (xN).pt:=
 ap (S:=ct [(iH,HV Lx),(eg,nI),(bR,lK),(iI,wC),(eC,kt),(eB,s_indexByte)]) (av (ae JA (ae tt (ae pK (ae Ct (ae vx (ae vw am))))))) Ip (fun _=> Nat.le_of_ble_eq_true rfl) (Js (S0:=Lx) rfl rfl rfl rfl rfl rfl rfl rfl rfl)
theorem fY:Tri Tryz.prog aU (nn).pt:=
 hY (S:=ct [(gh,xN)]) (av (ae AE am)) t5 (fun _=> Nat.le_of_ble_eq_true rfl) (Fm rfl)
theorem vz:Tri Tryz.prog eD (HU).pt:=
 hY (S:=ct [(gh,xN)]) (av (ae AE am)) t4 (fun _=> Nat.le_of_ble_eq_true rfl) (Fl rfl)
theorem ew:Tri Tryz.prog aL (kP).pt:=
 hY (S:=ct []) (av am) t3 (fun _=> Nat.le_of_ble_eq_true rfl) (Fk)
theorem aP:Tri Tryz.prog ac (bF).pt:=
 hY (S:=ct [(aU,nn),(aL,kP)]) (av (ae fY (ae ew am))) t0 (fun _=> Nat.le_of_ble_eq_true rfl) (Fj rfl rfl)
theorem jo:Tri Tryz.prog a9 (rh).pt:=
 hY (S:=ct [(cS,rl)]) (av (ae pJ am)) tY (fun _=> Nat.le_of_ble_eq_true rfl) (Fi rfl)
theorem jp:Tri Tryz.prog bg (ri).pt:=
 hY (S:=ct [(ac,bF)]) (av (ae aP am)) uc (fun _=> Nat.le_of_ble_eq_true rfl) (Fo rfl)
theorem wb:Tri Tryz.prog eT (xO).pt:=
 ap (S:=ct []) (av am) DL (fun _=> Nat.le_of_ble_eq_true rfl) (T0)
theorem qm:Tri Tryz.prog dj (nJ).pt:=
 ap (S:=ct []) (av am) yb (fun _=> Nat.le_of_ble_eq_true rfl) (LD)
theorem sI:Tri Tryz.prog dO (zl).pt:=
 hY (S:=ct [(aL,kP),(a9,rh),(eD,HU)]) (av (ae ew (ae jo (ae vz am)))) rL (fun _=> Nat.le_of_ble_eq_true rfl) (A3 rfl rfl rfl)
theorem ng:Tri Tryz.prog cg (qv).pt:=
 ap (S:=ct []) (av am) ue (fun _=> Nat.le_of_ble_eq_true rfl) (Qk)
theorem xv:Tri Tryz.prog fJ (zj).pt:=
 ap (S:=ct [(j0,s_count0)]) (av (ae Bi am)) wM (fun _=> Nat.le_of_ble_eq_true rfl) (xk rfl)
theorem tm:Tri Tryz.prog d9 (zk).pt:=
 ap (S:=ct [(fJ,zj)]) (av (ae xv am)) sJ (fun _=> Nat.le_of_ble_eq_true rfl) (ti rfl)
theorem wu:Tri Tryz.prog df (L2).pt:=
 qo (S:=ct [(d9,zk),(ab,s_wstr)]) (av (ae tm (ae gM am))) vH (fun _=> Nat.le_of_ble_eq_true rfl) (Hn rfl rfl)
theorem tq:Tri Tryz.prog ea (CO).pt:=
 qo (S:=ct [(df,L2),(ab,s_wstr)]) (av (ae wu (ae gM am))) sK (fun _=> Nat.le_of_ble_eq_true rfl) (Cf rfl rfl)
theorem vy:Tri Tryz.prog dG (HN).pt:=
 qo (S:=ct [(ea,CO),(ab,s_wstr)]) (av (ae tq (ae gM am))) tX (fun _=> Nat.le_of_ble_eq_true rfl) (Fh rfl rfl)
theorem tr:Tri Tryz.prog eb (L0).pt:=
 qo (S:=ct [(dG,HN),(ab,s_wstr)]) (av (ae vy (ae gM am))) sL (fun _=> Nat.le_of_ble_eq_true rfl) (Cg rfl rfl)
theorem k8: ∀n,Tri Tryz.prog bG (CP (tT n)).pt
 | 0=> TJ fun z=> rfl
 | n+1=>
   have h1:Tri Tryz.prog bI (Ns (GE (tT n))).pt:=Gl (S:=ct [(bG,CP (tT n))]) (av (ae (k8 n) am)) pf (fun id b ds t h=> by unfold Yi at h;split at h <;> first | (exact Nat.le_of_ble_eq_true rfl) | cases h) (wn (tT n) rfl)
   have h2:Tri Tryz.prog ck (Nr (XX (tT n))).pt:=Gl (S:=ct [(ab,s_wstr),(bI,Ns (GE (tT n)))]) (av (ae gM (ae h1 am))) wO (fun id b ds t h=> by unfold Yd at h;split at h <;> first | (exact Nat.le_of_ble_eq_true rfl) | cases h) (Jk (XX (tT n)) rfl fun g cs t h=> by
    unfold XX at h
    split at h
    ·rename_i e;subst e;rfl
    ·cases h)
   qo (S:=ct [(eb,L0),(ab,s_wstr),(ck,Nr (XX (tT n)))]) (av (ae tr (ae gM (ae h2 am)))) qH (fun _=> Nat.le_of_ble_eq_true rfl) (yT (tT n) rfl rfl rfl)
theorem tR: ∀n,Tri Tryz.prog dB (Db n).pt
 | 0=> cO fun x h=> h
 | n+1=> ap (S:=ct [(dB,Db n)]) (av (ae (tR n) am)) Bs (fun _=> Nat.le_of_ble_eq_true rfl) (Cm n rfl)
theorem Cv:Tri Tryz.prog dB (zu).pt:=
 fS (fun n=> tR n) (gQ (fun x h=> h))
theorem wc:Tri Tryz.prog fV (xP).pt:=
 ap (S:=ct [(dB,zu)]) (av (ae Cv am)) DM (fun _=> Nat.le_of_ble_eq_true rfl) (FB rfl)
theorem tQ: ∀n,Tri Tryz.prog bZ (Af n).pt
 | 0=> tA fun d ds H K ⟨id,v,l,a,x,h1,h2,h3,h4,h5⟩=> Vx h4.1
 | n+1=> wx (S:=ct [(bZ,Af n),(fV,xP)]) (av (ae (tQ n) (ae wc am))) sA (by decide) (Cl n rfl rfl)
theorem qn:Tri Tryz.prog bZ i_leavesQA.pt:=fS (fun n=> tQ n) fun d ds H K ⟨id,v,l,a,x,h1,h2,h3,h4,h5⟩=> ⟨eJ x,id,v,l,a,x,h1,h2,h3,⟨Nat.le_refl _,h4⟩,h5⟩
theorem Cu:Tri Tryz.prog bZ s_leavesQ.pt:=LS (zb (S:=ct [(bZ,i_leavesQA),(fV,xP)]) (av (ae qn (ae wc am))) sA (fun _=> Nat.le_of_ble_eq_true rfl) (A9 rfl rfl)) qn
theorem xy:Tri Tryz.prog fN (Da).pt:=
 ap (S:=ct []) (av am) wR (fun _=> Nat.le_of_ble_eq_true rfl) (xo)
theorem vC:Tri Tryz.prog cJ (zw).pt:=
 ap (S:=ct [(fN,Da)]) (av (ae xy am)) ui (fun _=> Nat.le_of_ble_eq_true rfl) (vu rfl)
theorem vB:Tri Tryz.prog dI (wI).pt:=
 ap (S:=ct []) (av am) uh (fun _=> Nat.le_of_ble_eq_true rfl) (vt)
theorem za:Tri Tryz.prog eY (H6).pt:=
 ap (S:=ct [(cJ,zw)]) (av (ae vC am)) yf (fun _=> Nat.le_of_ble_eq_true rfl) (yX rfl)
theorem xz:Tri Tryz.prog fO (Dc).pt:=
 ap (S:=ct [(dI,wI),(eY,H6)]) (av (ae vB (ae za am))) wS (fun _=> Nat.le_of_ble_eq_true rfl) (xp rfl rfl)
theorem yZ:Tri Tryz.prog eX (zx).pt:=
 ap (S:=ct [(fO,Dc)]) (av (ae xz am)) yd (fun _=> Nat.le_of_ble_eq_true rfl) (yW rfl)
theorem HF:Tri Tryz.prog lk (L4).pt:=
 ap (S:=ct []) (av am) FT (fun _=> Nat.le_of_ble_eq_true rfl) (Hv)
theorem FM:Tri Tryz.prog jT (H8).pt:=
 ap (S:=ct [(lk,L4)]) (av (ae HF am)) DN (fun _=> Nat.le_of_ble_eq_true rfl) (FC rfl)
theorem pd:Tri Tryz.prog cH (L9).pt:=
 ap (S:=ct []) (av am) oc (fun _=> Nat.le_of_ble_eq_true rfl) (pa)
theorem mL:Tri Tryz.prog bY (Ma).pt:=
 ap (S:=ct [(cH,L9)]) (av (ae pd am)) my (fun _=> Nat.le_of_ble_eq_true rfl) (mK rfl)
def qfH:Nat→Spc:=ct [(eX,zx)]
theorem Cw:Tri Tryz.prog iJ (De 10).pt:=
 ap (S:=ct [(eU,xQ),(bY,Ma),(jT,H8),(bZ,s_leavesQ),(aI,wJ qfH),(bG,CP (tT 10)),(cR,s_string)]) (av (ae we (ae mL (ae FM (ae Cu (ae (MQ (S:=qfH) (av (ae yZ am))) (ae (k8 10) (ae QO am)))))))) Bt (fun _=> Nat.le_of_ble_eq_true rfl) (Cn (S0:=qfH) 10 rfl rfl rfl rfl rfl rfl rfl rfl)
theorem sy: ∀n,Tri Tryz.prog cA (wD n).pt
 | 0=> cO fun x h=> absurd h.1 (Nat.not_lt_zero _)
 | n+1=> ap (S:=ct [(aj,s_m_Next),(fM,je),(cA,wD n)]) (av (ae gL (ae xx (ae (sy n) am)))) Bu (fun _=> Nat.le_of_ble_eq_true rfl) (LF n rfl rfl rfl)
theorem Bh:Tri Tryz.prog cA (tF).pt:=
 fS (fun n=> sy n) (gQ (fun x h=> h))
theorem Cz:Tri Tryz.prog jU (zq).pt:=
 ap (S:=ct [(aj,s_m_Next),(cA,tF)]) (av (ae gL (ae Bh am))) DQ (fun _=> Nat.le_of_ble_eq_true rfl) (Ox rfl rfl)
theorem px: ∀n,Tri Tryz.prog bv (rk n).pt
 | 0=> cO fun x h=> absurd h.1 (Nat.not_lt_zero _)
 | n+1=> ap (S:=ct [(aj,s_m_Next),(fM,je),(jU,zq),(bv,rk n)]) (av (ae gL (ae xx (ae Cz (ae (px n) am))))) ye (fun _=> Nat.le_of_ble_eq_true rfl) (Hz n rfl rfl rfl rfl)
theorem xD:Tri Tryz.prog bv (pN).pt:=
 fS (fun n=> px n) (gQ (fun x h=> ⟨x.2.1.toNat+1,Nat.lt_succ_self _,h⟩))
theorem AM: ∀n,Tri Tryz.prog fL (rj n).pt
 | 0=> cO fun x h=> absurd h.1 (Nat.not_lt_zero _)
 | n+1=> ap (S:=ct [(fL,rj n)]) (av (ae (AM n) am)) Iq (fun _=> Nat.le_of_ble_eq_true rfl) (Hy n rfl)
theorem JB:Tri Tryz.prog fL (pM).pt:=
 fS (fun n=> AM n) (gQ (fun x h=> by obtain⟨n,h⟩:=h;exact⟨n+1,Nat.succ_pos _,h⟩))
theorem JU: ∀n,Tri Tryz.prog lm (zp n).pt
 | 0=> cO fun x h=> absurd h.1 (Nat.not_lt_zero _)
 | n+1=> ap (S:=ct [(fL,pM),(lm,zp n)]) (av (ae JB (ae (JU n) am))) O4 (fun _=> Nat.le_of_ble_eq_true rfl) (Ov n rfl rfl)
theorem QD:Tri Tryz.prog lm (wE).pt:=
 fS (fun n=> JU n) (gQ (fun x h=> by obtain⟨n,h⟩:=h;exact⟨n+1,Nat.succ_pos _,h⟩))
theorem Gy: ∀n,Tri Tryz.prog fB (Et n).pt
 | 0=> tA fun d ds H K ⟨id,v,l,a,x,h1,h2,h3,h4,h5⟩=> Vx h4.1
 | n+1=> wx (S:=ct [(fB,Et n)]) (av (ae (Gy n) am)) DR (by decide) (Ju n rfl)
theorem AF:Tri Tryz.prog fB i_BoundA2.pt:=fS (fun n=> Gy n) fun d ds H K ⟨id,v,l,a,x,h1,h2,h3,h4,h5⟩=> ⟨eJ x,id,v,l,a,x,h1,h2,h3,⟨Nat.le_refl _,h4⟩,h5⟩
theorem OG:Tri Tryz.prog fB s_Bound2.pt:=LS (zb (S:=ct [(fB,i_BoundA2)]) (av (ae AF am)) DR (fun _=> Nat.le_of_ble_eq_true rfl) (Jv rfl)) AF
theorem nh: ∀n,Tri Tryz.prog bp (mN n).pt
 | 0=> cO fun x h=> absurd h.1 (Nat.not_lt_zero _)
 | n+1=> ap (S:=ct [(aj,s_m_Next),(fM,je),(bp,mN n)]) (av (ae gL (ae xx (ae (nh n) am)))) uf (fun _=> Nat.le_of_ble_eq_true rfl) (Bd n rfl rfl rfl)
theorem vA:Tri Tryz.prog bp (lL).pt:=
 fS (fun n=> nh n) (gQ (fun x h=> h))
theorem Bg:Tri Tryz.prog gJ (tG).pt:=
 ap (S:=ct [(aj,s_m_Next),(fM,je)]) (av (ae gL (ae xx am))) zS (fun _=> Nat.le_of_ble_eq_true rfl) (Jt rfl rfl)
theorem Cx:Tri Tryz.prog iK (wF).pt:=
 ap (S:=ct [(aj,s_m_Next),(bv,pN),(fB,s_Bound2),(lm,wE),(bp,lL),(gJ,tG)]) (av (ae gL (ae xD (ae OG (ae QD (ae vA (ae Bg am))))))) Bv (fun _=> Nat.le_of_ble_eq_true rfl) (LG rfl rfl rfl rfl rfl rfl)
theorem Do: ∀n,Tri Tryz.prog eq (HT n).pt
 | 0=> cO fun x h=> qiF h
 | n+1=> ap (S:=ct [(eq,HT n)]) (av (ae (Do n) am)) J5 (fun _=> Nat.le_of_ble_eq_true rfl) (LB n rfl)
theorem Cr:Tri Tryz.prog eq (xL).pt:=
 fS (fun n=> Do n) (gQ (fun x _=> ⟨hJ x.1,Nat.le_refl _⟩))
theorem Jy:Tri Tryz.prog mE (tE).pt:=
 ap (S:=ct [(eq,xL)]) (av (ae Cr am)) Ii (fun _=> Nat.le_of_ble_eq_true rfl) (Jl rfl)
theorem xV: ∀n,Tri Tryz.prog eL (CR n).pt
 | 0=> cO fun x h=> Vx h.1
 | n+1=> ap (S:=ct [(mE,tE),(eL,CR n)]) (av (ae Jy (ae (xV n) am))) FQ (fun _=> Nat.le_of_ble_eq_true rfl) (Hp n rfl rfl)
theorem HB:Tri Tryz.prog eL (zh).pt:=
 fS (fun n=> xV n) (gQ (fun x h=> ⟨eJ x.1,Nat.le_refl _,h⟩))
theorem xW: ∀n,Tri Tryz.prog cX (Es n).pt
 | 0=> tA fun d ds H K ⟨id,v,l,a,x,h1,h2,h3,h4,h5⟩=> Vx h4.1
 | n+1=> wx (S:=ct [(cX,Es n)]) (av (ae (xW n) am)) wi (by decide) (Hq n rfl)
theorem tn:Tri Tryz.prog cX i_leavesA.pt:=fS (fun n=> xW n) fun d ds H K ⟨id,v,l,a,x,h1,h2,h3,h4,h5⟩=> ⟨eJ x,id,v,l,a,x,h1,h2,h3,⟨Nat.le_refl _,h4⟩,h5⟩
theorem HC:Tri Tryz.prog cX s_leaves.pt:=LS (zb (S:=ct [(cX,i_leavesA)]) (av (ae tn am)) wi (fun _=> Nat.le_of_ble_eq_true rfl) (Fs rfl)) tn
theorem pw: ∀n,Tri Tryz.prog cj (HR n).pt
 | 0=> cO fun x h=> Vx h
 | n+1=> ap (S:=ct [(eq,xL),(cj,HR n)]) (av (ae Cr (ae (pw n) am))) wN (fun _=> Nat.le_of_ble_eq_true rfl) (xm n rfl rfl)
theorem xw:Tri Tryz.prog cj (CU).pt:=
 fS (fun n=> pw n) (gQ (fun x _=> ⟨eJ x.1,Nat.le_refl _⟩))
theorem Jz:Tri Tryz.prog mF (HO).pt:=
 ap (S:=ct []) (av am) Il (fun _=> Nat.le_of_ble_eq_true rfl) (Jo)
end Go.Gv

namespace Go.Gv
open Go.Proofs
def jA:CC:=oX [oB 4 (.mv (oS ⟨#[]⟩))] [0,1] [] (.seq (oX [oA 7 0,oB 8 (.eql false false [.str] (oT 7) (oS ⟨#[]⟩)),oA 9 8,oI 10 9 (.mv (oT 1)),oI 11 9 (.eql false false [.str] (oT 10) (oS ⟨#[]⟩)),oB 12 (.pick (oT 9) (.const (.bool true)) (oT 11))] [0,1,12] [] (.ite (oT 12) (oX [oA 13 0,oA 4 13] [4] [5] (.ret)) (.skip))) (.keep [0,1] [] (.seq (oX [oA 14 1,
 oB 15 (.slen (oT 14)),oB 16 (.eql false false [.int] (oT 15) (oN 1)),oA 17 16,oH 18 17 (.mv (oT 1)),oH 19 17 (.sidx (oT 18) (oN 0)),oH 20 17 (.cmp .lss (oT 19) (.const (.int .u8 128))),oB 21 (.pick (oT 17) (oT 20) (.const ob))] [0,1,21] [] (.ite (oT 21) (oX [oA 22 0,oA 23 1,oB 24 (.sidx (oT 23) (oN 0)),oZ 25 dy [oT 22,oT 24],oA 4 25] [4] [5] (.ret)) (.skip)))
 (.keep [0,1] [] (.seq (oX [oA 27 1,oZ 28 rY [oT 27],oA 26 28,oB 29 (.ext (oT 26) 0),oB 30 (.ext (oT 26) 1),
 oB 5 (.alloc vD [ob,ob,ob,ob,ob,ob,ob,ob,ob,ob,ob,ob,ob,ob,ob,ob,ob,ob,ob,ob,ob,ob,ob,ob,ob,ob,ob,ob,ob,ob,ob,ob,ob,ob,ob,ob,ob,ob,ob,ob,ob,ob,ob,ob,ob,ob,ob,ob,ob,ob,ob,ob,ob,ob,ob,ob,ob,ob,ob,ob,ob,ob,ob,ob,ob,ob,ob,ob,ob,ob,ob,ob,ob,ob,ob,ob,ob,ob,ob,ob,ob,ob,ob,ob,ob,ob,ob,ob,ob,ob,ob,ob,ob,ob,ob,ob,ob,ob,ob,ob,ob,ob,ob,ob,ob,ob,ob,ob,ob,ob,ob,ob,ob,ob,ob,ob,ob,ob,ob,ob,ob,ob,ob,ob,ob,ob,ob,ob,ob,ob,ob,ob,ob,ob,ob,ob,ob,ob,ob,ob,ob,ob,ob,ob,ob,ob,ob,ob,ob,ob,ob,ob,ob,ob,ob,ob,ob,ob,ob,ob,ob,ob,ob,ob,ob,ob,ob,ob,ob,ob,ob,ob,ob,ob,ob,ob,ob,ob,ob,ob,ob,ob,ob,ob,ob,ob,ob,ob,ob,ob,ob,ob,ob,ob,ob,ob,ob,ob,ob,ob,ob,ob,ob,ob,ob,ob,ob,ob,ob,ob,ob,ob,ob,ob,ob,ob,ob,ob,ob,ob,ob,ob,ob,ob,ob,ob,ob,ob,ob,ob,ob,ob,ob,ob,ob,ob,ob,ob,ob,ob,ob,ob,ob,ob,ob,ob,ob,ob,ob,ob,ob,ob,ob,ob,ob,ob]),
 oF 256 5 29,oA 6 30] [0,1,5,6] [5] (oX [oA 31 6] [0,1,5,31] [5] (.ite (oT 31) (oX [oA 32 0,oZ 33 qP [oT 32,oT 5],oA 4 33] [4] [5] (.ret)) (.skip)))) (.keep [0,1] [] (oX [oA 34 0,oA 35 1,oZ 36 pn [oT 34,oT 35],oA 4 36] [4] [5] (.ret))))))))
def jq:List aK:= [.tmp 4]
def vR:List Nat:= []
theorem vG:aS Tryz.prog fe vR jA jq 37:=aF ay (by kernel_rfl)
-- strings_trimLeftByte while id=0: live [0:s, 1:c] changed [0] res []
def gd:CC:=oX [oB 4 (.mv (oS ⟨#[]⟩))] [0,1] [] (.seq (.block 0 (.loop 1 (.seq (oX [oA 5 0,oB 6 (.slen (oT 5)),oB 7 (.cmp .gtr (oT 6) (oN 0)),oA 8 7,oH 9 8 (.mv (oT 0)),oH 10 8 (.sidx (oT 9) (oN 0)),oH 11 8 (.mv (oT 1)),oH 12 8 (.eql false false [.int] (oT 10) (oT 11)),oB 13 (.pick (oT 8) (oT 12) (.const ob))] [0,1,13] [] (.ite (oT 13) (.skip) (.exit 0)))
 (.keep [0,1] [] (.block 1 (.reg [oA 14 0,oB 15 (.sslice (oT 14) (some (oN 1)) none),oA 0 15])))))) (.keep [0] [] (oX [oA 16 0,oA 4 16] [4] [] (.ret))))
def f0:List aK:= [.tmp 4]
def qK:List Nat:= []
theorem qG:aS Tryz.prog dy qK gd f0 17:=aF ay (by kernel_rfl)
-- strings_TrimLeft_1: no such function
end Go.Gv
