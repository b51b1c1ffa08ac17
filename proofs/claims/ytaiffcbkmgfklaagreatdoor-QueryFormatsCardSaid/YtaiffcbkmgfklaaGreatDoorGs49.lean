/- A part of the framework and of the walks: W119 W120 Asm10 Fr Fr2 Fr3 Fr4 Fr5. -/
import Derived.WalkKit
import Derived.ProofKit
import Derived.OpenShut
import Derived.ShutString
import Derived.ChangeOld
import Derived.Below
import Derived.Lib.LaidTab
import Derived.Stop.LaidErr
import Derived.Test.YtaiffcbkmgfklaaGreatDoorGs31
import Derived.Test.YtaiffcbkmgfklaaGreatDoorGs41
import Derived.Test.YtaiffcbkmgfklaaGreatDoorGs45
import Derived.Test.YtaiffcbkmgfklaaGreatDoorGs48
import Derived.Test.YtaiffcbkmgfklaaGreatDoorGs42
import Derived.Test.YtaiffcbkmgfklaaGreatDoorGs43
import Derived.Test.YtaiffcbkmgfklaaGreatDoorGs19
import Derived.Test.YtaiffcbkmgfklaaGreatDoorGs17
set_option linter.unusedSimpArgs false
set_option linter.unusedVariables false
set_option maxRecDepth 100000

namespace Go.Gv
open Cod (enc dec)
variable {S S0:Nat→Spc}
abbrev J4:Spc:=cY (a1 Filt) GF (enc (X:=Bool)) fun x y=> y=false
theorem HI:Walk sw r8 S (a1 Filt) GF (enc (X:=Bool)) fun x y=> y=false:=by
 rintro⟨fop,fneg,freg⟩ ⟨h,_⟩
 simp only at h
 rcases h with rfl | rfl | rfl <;> simp[sw,r8, -Bool.forall_bool, -Bool.exists_bool]
def AQ (S0:Nat→Spc) (x:List Filt×D×Unit):Prop:=FunOn S0 x.2.1 x.1 fun _=> false
abbrev PE (S0:Nat→Spc):Spc:=cY (aE (List Filt) (aD a0)) (AQ S0) (enc (X:=Int)) fun x y=> y= -1
theorem UY (x:Filt):D.agg [D.v (Value.int IntKind.i64 x.op),D.v (Value.bool x.neg),D.v (Value.string x.reg)]=enc x:=by simp
theorem qd:Walk di de S (aE (List Filt) (aD a0)) (AQ S) (enc (X:=Int)) fun x y=> y= -1:=by
 rintro⟨l,d,⟨⟩⟩ hp
 replace hp:FunOn S d l fun _=> false:=hp
 simp[di,de, -Bool.forall_bool, -Bool.exists_bool]
 intro hkl
 refine aw (X:=Unit) [0,1] [] l.length (fun k _=> True) (fun _=> []) (fun _=> []) () (by simp) (by simp) (by omega) (by simp) (by simp) (by simp) (by simp) (by simp) ?_ ?_
 ·rintro k -hk -
  obtain⟨y,hy⟩:=cz hk
  obtain⟨_,hgy⟩:=List.getElem?_eq_some_iff.1 hy
  simp[hk,hy,hgy, -Bool.forall_bool, -Bool.exists_bool]
  rw[UY y]
  refine hp.useB y (cn hy) fun b hb=> ?_
  obtain rfl:b=false:=hb _ hp
  simp
 ·rintro - -
  simp
abbrev Kh (S0:Nat→Spc):Spc:=cY (aE (List Filt) (aD a0)) (AQ S0) (enc (X:=Bool)) fun x y=> y=false
theorem ow (h1:S b9=PE S0):Walk cF cC S (aE (List Filt) (aD a0)) (AQ S0) (enc (X:=Bool)) fun x y=> y=false:=by
 rintro⟨l,d,⟨⟩⟩ hp
 simp[cF,cC,h1,hp, -Bool.forall_bool]
def qhX (p:Pat):Prop:= ∃lb m,m≤2∧GC lb m p.cond
abbrev yT:Spc:=cY (a1 Pat) qhX (enc (X:=Bool)) fun x y=> y=false
theorem zx (h1:S dC=Bm):Walk hD gN S (a1 Pat) qhX (enc (X:=Bool)) fun x y=> y=false:=by
 rintro x hx
 have hx': ∃lb m,m≤2∧GC lb m x.cond:=hx
 simp[hD,gN,h1,hx', -Bool.forall_bool]
theorem Oy {q:Qry} :sd ⟨#[]⟩≠some (q,0,0):=by
 have h:sd ⟨#[]⟩=some (L5,0,3):=by kernel_rfl
 rw[h]
 simp
theorem Y1 {n:Nat} {q:Qry} (h:GQ n q) (hn:n≤5) {t:B} (ht:Dv q=some t):t.size≠0:=by
 intro e
 have h1:=L4 h hn ht (by omega)
 have:t=⟨#[]⟩:=by
  obtain⟨a⟩:=t
  have:a.size=0:=e
  rw[Array.eq_empty_of_size_eq_zero this]
 subst this
 exact Oy h1
set_option maxHeartbeats 2000000 in
theorem Dj (h0:S0 cT=yT) (hk:S0 iR=J4) (h1:S d9=tA) (h2:S bw=Kh S0) (h3:S f7=Fi) (h4:S cg=s_leavesQ) (h5:S aC=tB S0)
 (h6:S aU=qf (eT (bj 10) 10)) (h8:S cp=s_string) (h9:S bM=tn (aX 10)) (h10:S aa=s_wstr) (h11:S b5=oz) (h12:S bY=s_qstrats):Walk jk je S (a1 Qry) qcp (enc (X:=B)) fun q y=> Dv q=some y:=by
 rintro⟨p,g,fs,st⟩ ⟨n,hn,hq⟩
 obtain⟨t,ht,hl⟩:=L3 hq hn
 have hL:=jf
 have hne:=Y1 hq hn ht
 have hR:=ht
 unfold Dv at ht
 simp only at ht
 obtain⟨tp,hp,ht⟩:=Option.bind_eq_some_iff.1 ht
 obtain⟨tg,hg,ht⟩:=Option.bind_eq_some_iff.1 ht
 obtain⟨tf,hf,ht⟩:=Option.bind_eq_some_iff.1 ht
 obtain⟨ts,hs,ht⟩:=Option.map_eq_some_iff.1 ht
 have hl0:=hl
 rw[←ht] at hl
 simp only[ag] at hl
 have q2:=PW hq hn
 simp only[sa,Bool.and_eq_true] at q2
 have q3:=Zn hq hn
 simp only at q3
 have q4:g=GlobE∨ ∃lb,GG lb 2 g:=hq.glob.elim .inl fun h=> .inr ⟨_,h⟩
 have q5: ∀y∈dy p,qhX y:=fun y hy=> by
  obtain⟨lb,_,hw⟩:=hq.lab
  rw[NK hw] at hy
  exact⟨_,1,by omega,hq.cond y hy⟩
 have q6:=hq.strat
 simp only at q6
 have q7: ¬st < 0:=by omega
 have q8: ¬3 < st:=by omega
 have q9:=hq.filts.2
 simp only at q9
 have hfs:fs.length≤1:=hq.filts.1
 have fK:FunOn S0 (.clo iR []) fs fun _=> false:=by
  refine⟨_, [],_,rfl,hk,fun x hx=> ⟨⟨x,by simp,q9 x hx⟩,fun r hr=> ?_⟩⟩
  obtain⟨y,rfl,hy⟩:=hr x (by simp) (q9 x hx)
  rw[hy]
 have fK':AQ S0 (fs, .clo iR [],()):=fK
 have f1:FunOn S0 (.clo cT []) (dy p) fun _=> false:=by
  refine⟨_, [],_,rfl,h0,fun x hx=> ⟨⟨x,by simp,q5 x hx⟩,fun r hr=> ?_⟩⟩
  obtain⟨y,rfl,hy⟩:=hr x (by simp) (q5 x hx)
  rw[hy]
 simp[jk,je,q2,q4,q7,q8,fK',h1,h2,h3,h4,h5,pg, -Bool.forall_bool, -Bool.exists_bool]
 refine .inl ⟨q3,⟨_,f1⟩,fun y hy=> ?_⟩
 have e:y=false:=by
  have hy:y=(dy p).any fun _=> false:=hy _ f1
  rw[hy];simp
 subst e
 refine⟨fun h=> absurd h (by decide),fun _=> ?_⟩
 unfold mu
 simp[-Bool.forall_bool, -Bool.exists_bool]
 intro b
 refine Pv (Cv (k:=36) (j:=900) (b:=b) (tw:=108) (el:=5) (cs:= [.v (.pointer none), .v (.slice none 0 0)]) (cs':= [.v (pv b false), .own 900 (.slice none 0 0)]) (by decide) (by simp) (by simp) ?_) ?_
 ·intro m c c' hc hc'
  match m with
  | 0=> simp at hc hc';subst hc;subst hc';exact .same _
  | 1=> simp at hc hc';subst hc;subst hc';exact .nilown _
  | m+2=> simp at hc
 have hpl:tp.size≤mi:=by omega
 by_cases hg0:g.op=0
 ·obtain rfl:tg=E0:=by
   unfold zr at hg
   rw[if_pos hg0] at hg
   exact(Option.some.inj hg).symm
  simp[h6,hp,hpl,hg0,dr,ab, -Bool.forall_bool, -Bool.exists_bool]
  intro u v hkl2
  refine aw (X:=Bool×Value×B×B) [1,3,54] [] fs.length (fun k x=> kV (fs.drop k)=some x.2.2.2∧x.2.2.1++x.2.2.2=(tp++E0) ++tf) (fun _=> []) (fun x=> [(36, .tbox 108 b [.v (pv b x.1), .own 900 x.2.1]),(900, .row x.2.1 5 1 (bD x.2.2.1))]) (u,v,tp,tf) (by simp) (by simp) (by omega) (by simp) (by simp) ⟨hf,by rw[E0,aQ]⟩ (by simp) (by simp) ?_ ?_
  ·rintro k ⟨u1,v1,acc,r⟩ hk ⟨c1,c2⟩
   simp only at c1 c2
   obtain⟨x,hx⟩:=cz hk
   obtain⟨_,hgx⟩:=List.getElem?_eq_some_iff.1 hx
   obtain⟨tk,r',d1,d2,rfl⟩:=ul hx c1
   obtain⟨e1,e2⟩:=q9 x (cn hx)
   have hl2:acc.size+ (tk.size+r'.size)≤6000:=by
    have:=congrArg ByteArray.size c2
    simp only[ag] at this
    omega
   obtain⟨fop,fneg,freg⟩:=x
   simp only at e1 e2
   have nxt: ∀ (s0:B),s0=acc++tk→ ∃y,kV (fs.drop (k+1))=some y∧s0++y=(tp++E0) ++tf:=fun s0 e=> ⟨r',d2,by rw[e,←c2,ByteArray.append_assoc]⟩
   unfold KZ at d1
   rcases e1 with rfl | rfl | rfl <;> cases fneg
   all_goals
    obtain rfl:=Option.some.inj d1
    simp only[ag,ab] at hl2
    simp at hl2
    simp[h10,h11,hk,hx,hgx,filterL,ab, -Bool.forall_bool, -Bool.exists_bool]
    repeat' first | (refine And.intro (by omega) ?_) | (intro u2 v2)
    obtain⟨y,y1,y2⟩:=nxt _ rfl
    exact⟨u2,v2,_,⟨y,y1,y2⟩, .inl ⟨rfl,rfl⟩, .inl ⟨rfl,congrArg bD (by simp[filterL,ByteArray.append_assoc])⟩⟩
  ·rintro⟨u1,v1,acc,r⟩ ⟨c1,c2⟩
   simp only at c1 c2
   rw[List.drop_length,kV] at c1
   obtain rfl:=Option.some.inj c1
   have hacc:acc=(tp++E0) ++tf:=by rw[←c2,E0,aQ]
   have hasz:acc.size≤6000:=by
    rw[hacc]
    simp only[ag]
    omega
   have hst:st=0∨st=1∨st=2∨st=3:=by omega
   rcases hst with rfl | rfl | rfl | rfl
   all_goals
    obtain rfl:=Option.some.inj hs
    have et:=ht
    rw[←hacc] at et
    simp[E0,aQ] at et
    simp[h8,h10,h12,strategyL,ab,et, -Bool.forall_bool, -Bool.exists_bool]
    first
     | exact⟨by omega,fun u2 v2=> ⟨36,b,u2,v2,t,rfl,by simp,by simp,by decide,⟨hne,by omega⟩,gj (Y:=B) t (.same _) hR⟩⟩
     | exact⟨36,b,u1,v1,t,rfl,by simp,by simp,by decide,⟨hne,by omega⟩,gj (Y:=B) t (.same _) hR⟩
 ·obtain⟨w,hw,htg⟩: ∃w,aX 10 g=some w∧⟨#[32,58,58,32]⟩ ++w=tg:=by
   unfold zr at hg
   rw[if_neg hg0] at hg
   exact Option.map_eq_some_iff.1 hg
  have hsz:tg.size=4+w.size:=by rw[←htg,ag];rfl
  simp[h6,h9,h10,hp,hpl,hg0,hw,dr,ab, -Bool.forall_bool, -Bool.exists_bool]
  refine⟨by omega,by omega,fun u v hkl2=> ?_⟩
  have hP:tp++ ⟨#[32,58,58,32]⟩ ++w=tp++tg:=by rw[←htg,ByteArray.append_assoc]
  rw[hP]
  refine aw (X:=Bool×Value×B×B) [1,3,54] [] fs.length (fun k x=> kV (fs.drop k)=some x.2.2.2∧x.2.2.1++x.2.2.2=(tp++tg) ++tf) (fun _=> []) (fun x=> [(36, .tbox 108 b [.v (pv b x.1), .own 900 x.2.1]),(900, .row x.2.1 5 1 (bD x.2.2.1))]) (u,v,tp++tg,tf) (by simp) (by simp) (by omega) (by simp) (by simp) ⟨hf,rfl⟩ (by simp) (by simp) ?_ ?_
  ·rintro k ⟨u1,v1,acc,r⟩ hk ⟨c1,c2⟩
   simp only at c1 c2
   obtain⟨x,hx⟩:=cz hk
   obtain⟨_,hgx⟩:=List.getElem?_eq_some_iff.1 hx
   obtain⟨tk,r',d1,d2,rfl⟩:=ul hx c1
   obtain⟨e1,e2⟩:=q9 x (cn hx)
   have hl2:acc.size+ (tk.size+r'.size)≤6000:=by
    have:=congrArg ByteArray.size c2
    simp only[ag] at this
    omega
   obtain⟨fop,fneg,freg⟩:=x
   simp only at e1 e2
   have nxt: ∀ (s0:B),s0=acc++tk→ ∃y,kV (fs.drop (k+1))=some y∧s0++y=(tp++tg) ++tf:=fun s0 e=> ⟨r',d2,by rw[e,←c2,ByteArray.append_assoc]⟩
   unfold KZ at d1
   rcases e1 with rfl | rfl | rfl <;> cases fneg
   all_goals
    obtain rfl:=Option.some.inj d1
    simp only[ag,ab] at hl2
    simp at hl2
    simp[h10,h11,hk,hx,hgx,filterL,ab, -Bool.forall_bool, -Bool.exists_bool]
    repeat' first | (refine And.intro (by omega) ?_) | (intro u2 v2)
    obtain⟨y,y1,y2⟩:=nxt _ rfl
    exact⟨u2,v2,_,⟨y,y1,y2⟩, .inl ⟨rfl,rfl⟩, .inl ⟨rfl,congrArg bD (by simp[filterL,ByteArray.append_assoc])⟩⟩
  ·rintro⟨u1,v1,acc,r⟩ ⟨c1,c2⟩
   simp only at c1 c2
   rw[List.drop_length,kV] at c1
   obtain rfl:=Option.some.inj c1
   have hacc:acc=(tp++tg) ++tf:=by rw[←c2,E0,aQ]
   have hasz:acc.size≤6000:=by
    rw[hacc]
    simp only[ag]
    omega
   have hst:st=0∨st=1∨st=2∨st=3:=by omega
   rcases hst with rfl | rfl | rfl | rfl
   all_goals
    obtain rfl:=Option.some.inj hs
    have et:=ht
    rw[←hacc] at et
    simp[E0,aQ] at et
    simp[h8,h10,h12,strategyL,ab,et, -Bool.forall_bool, -Bool.exists_bool]
    first
     | exact⟨by omega,fun u2 v2=> ⟨36,b,u2,v2,t,rfl,by simp,by simp,by decide,⟨hne,by omega⟩,gj (Y:=B) t (.same _) hR⟩⟩
     | exact⟨36,b,u1,v1,t,rfl,by simp,by simp,by decide,⟨hne,by omega⟩,gj (Y:=B) t (.same _) hR⟩
end Go.Gv

namespace Go.Gv
open Cod (enc dec)
variable {S S0:Nat→Spc}
abbrev Bo:Spc:=cY (a1 Qry) qcp (enc (X:=B)) fun q y=> Dv q=some y
abbrev s_lFormats:Spc:=cY (a1 (List Int)) (fun _=> True) (enc (X:=Bool)) fun _ y=> y=true
theorem vm (h1:S AB=s_m_New) (h2:S kj=yO) (h3:S dM=Bo) (h4:S m6=Bc) (h5:S eW=s_eParse) (h7:S qI=JW) (h8:S jp=Bh):
 Walk jD jx S (a1 (List Int)) (fun _=> True) (enc (X:=Bool)) fun _ y=> y=true:=by
 rintro l -
 simp[jD,jx,h1,h2,h3,h4, -Bool.forall_bool, -Bool.exists_bool]
 intro _ q hq b
 have hP:qcp q:=⟨3,by decide,hq⟩
 refine⟨hP,fun y hy=> ⟨hP,fun y' hy'=> ?_⟩⟩
 rw[hy] at hy'
 obtain rfl:=Option.some.inj hy'
 refine⟨rfl,fun _ _=> ⟨fun _=> ?_,fun hsz=> ?_⟩⟩
 ·simp[h8, -Bool.forall_bool, -Bool.exists_bool]
 ·have hp:sd y=some (q,0,0):=L4 (show GQ 3 q from hq) (by decide) hy (by omega)
  simp[h5,hp,h3,h7,h8,hP,hy, -Bool.forall_bool, -Bool.exists_bool]
end Go.Gv

namespace Go.Gv
open Go.Proofs Cod
theorem NI: ∀n,Tri Tryz.prog be (qh (bj n)).pt
 | 0=> D1 fun z=> rfl
 | n+1=>
   have h1:Tri Tryz.prog dH (pM (sq (bj n))).pt:=io (S:=cj [(be,qh (bj n))]) (ap (ac (NI n) ah)) tT (fun id b ds t h=> by unfold Hm at h;split at h <;> first | (exact Nat.le_of_ble_eq_true rfl) | cases h) (C1 (bj n) rfl)
   have h2:Tri Tryz.prog dG (pM (sq (bj n))).pt:=io (S:=cj [(be,qh (bj n))]) (ap (ac (NI n) ah)) tS (fun id b ds t h=> by unfold Hm at h;split at h <;> first | (exact Nat.le_of_ble_eq_true rfl) | cases h) (C0 (bj n) rfl)
   have h3:Tri Tryz.prog aH (pL (YB (bj n))).pt:=io (S:=cj [(aa,s_wstr),(dH,pM (sq (bj n))),(dG,pM (sq (bj n)))]) (ap (ac ck (ac h1 (ac h2 ah)))) iP (fun id b ds t h=> by unfold Xi at h;split at h <;> first | (exact Nat.le_of_ble_eq_true rfl) | cases h) (rC (YB (bj n)) rfl fun g cs t h=> by
    unfold YB at h
    split at h
    ·rename_i e;rcases e with rfl | rfl <;> rfl
    ·cases h)
   jl (S:=cj [(bQ,qe),(aa,s_wstr),(aP,lY),(aH,pL (YB (bj n)))]) (ap (ac jM (ac ck (ac lV (ac h3 ah))))) oP (fun _=> Nat.le_of_ble_eq_true rfl) (Ep (bj n) rfl rfl rfl rfl)
theorem V0:Tri Tryz.prog cE (JR (bj 10)).pt:=
 jl (S:=cj [(be,qh (bj 10)),(aa,s_wstr)]) (ap (ac (NI 10) (ac ck ah))) np (fun _=> Nat.le_of_ble_eq_true rfl) (CX (bj 10) rfl rfl)
theorem Sp:Tri Tryz.prog ke (EW).pt:=
 ak (S:=cj [(bp,s_itoa)]) (ap (ac vr ah)) Dy (fun _=> Nat.le_of_ble_eq_true rfl) (Er rfl)
theorem AS: ∀n,Tri Tryz.prog aU (qf (eT (bj 10) n)).pt
 | 0=> D1 fun z=> rfl
 | n+1=>
   have h1:Tri Tryz.prog cR (pM (rH (eT (bj 10) n))).pt:=io (S:=cj [(aU,qf (eT (bj 10) n))]) (ap (ac (AS n) ah)) rl (fun id b ds t h=> by unfold Hm at h;split at h <;> first | (exact Nat.le_of_ble_eq_true rfl) | cases h) (yv (eT (bj 10) n) rfl)
   have h2:Tri Tryz.prog bh (pM (rH (eT (bj 10) n))).pt:=io (S:=cj [(aU,qf (eT (bj 10) n))]) (ap (ac (AS n) ah)) kO (fun id b ds t h=> by unfold Hm at h;split at h <;> first | (exact Nat.le_of_ble_eq_true rfl) | cases h) (qb (eT (bj 10) n) rfl)
   have h3:Tri Tryz.prog aH (pL (Yz (eT (bj 10) n))).pt:=io (S:=cj [(aa,s_wstr),(cR,pM (rH (eT (bj 10) n))),(bh,pM (rH (eT (bj 10) n)))]) (ap (ac ck (ac h1 (ac h2 ah)))) iP (fun id b ds t h=> by unfold Xi at h;split at h <;> first | (exact Nat.le_of_ble_eq_true rfl) | cases h) (rC (Yz (eT (bj 10) n)) rfl fun g cs t h=> by
    unfold Yz at h
    split at h
    ·rename_i e;rcases e with rfl | rfl <;> rfl
    ·cases h)
   jl (S:=cj [(cE,JR (bj 10)),(aa,s_wstr),(ke,EW),(aH,pL (Yz (eT (bj 10) n)))]) (ap (ac V0 (ac ck (ac Sp (ac h3 ah))))) mo (fun _=> Nat.le_of_ble_eq_true rfl) (zs (bj 10) (eT (bj 10) n) rfl rfl rfl rfl)
theorem YE:Tri Tryz.prog fH (JT).pt:=
 jl (S:=cj [(bt,s_function),(aa,s_wstr),(bp,s_itoa),(aP,lY)]) (ap (ac sD (ac ck (ac vr (ac lV ah))))) vX (fun _=> Nat.le_of_ble_eq_true rfl) (Hq rfl rfl rfl rfl)
theorem NH: ∀n,Tri Tryz.prog bM (tn (aX n)).pt
 | 0=> D1 fun z=> rfl
 | n+1=>
   have h1:Tri Tryz.prog dF (pM (sj (aX n))).pt:=io (S:=cj [(bM,tn (aX n))]) (ap (ac (NH n) ah)) tR (fun id b ds t h=> by unfold Hm at h;split at h <;> first | (exact Nat.le_of_ble_eq_true rfl) | cases h) (CZ (aX n) rfl)
   have h2:Tri Tryz.prog dE (pM (sj (aX n))).pt:=io (S:=cj [(bM,tn (aX n))]) (ap (ac (NH n) ah)) tQ (fun id b ds t h=> by unfold Hm at h;split at h <;> first | (exact Nat.le_of_ble_eq_true rfl) | cases h) (CY (aX n) rfl)
   have h3:Tri Tryz.prog aH (pL (YA (aX n))).pt:=io (S:=cj [(aa,s_wstr),(dF,pM (sj (aX n))),(dE,pM (sj (aX n)))]) (ap (ac ck (ac h1 (ac h2 ah)))) iP (fun id b ds t h=> by unfold Xi at h;split at h <;> first | (exact Nat.le_of_ble_eq_true rfl) | cases h) (rC (YA (aX n)) rfl fun g cs t h=> by
    unfold YA at h
    split at h
    ·rename_i e;rcases e with rfl | rfl <;> rfl
    ·cases h)
   jl (S:=cj [(bQ,qe),(aa,s_wstr),(fH,JT),(aH,pL (YA (aX n)))]) (ap (ac jM (ac ck (ac YE (ac h3 ah))))) vW (fun _=> Nat.le_of_ble_eq_true rfl) (Ho (aX n) rfl rfl rfl rfl)
theorem Lm: ∀n,Tri Tryz.prog bF (Fe n).pt
 | 0=> cM fun x h=> qhk h.1
 | n+1=> ak (S:=cj [(bF,Fe n)]) (ap (ac (Lm n) ah)) oQ (fun _=> Nat.le_of_ble_eq_true rfl) (vn n rfl)
theorem Wc:Tri Tryz.prog bF s_cmeasA.pt:=fu (fun n=> Lm n) (gx (fun x h=> h))
theorem Sq:Tri Tryz.prog dB (Bk).pt:=
 ak (S:=cj []) (ap ah) qD (fun _=> Nat.le_of_ble_eq_true rfl) (yy)
theorem QB:Tri Tryz.prog bu (yS).pt:=
 ak (S:=cj [(dB,Bk)]) (ap (ac Sq ah)) oR (fun _=> Nat.le_of_ble_eq_true rfl) (vo rfl)
theorem Ll: ∀n,Tri Tryz.prog ca (Fb n).pt
 | 0=> cM fun x h=> qhk h.1.1
 | n+1=> ak (S:=cj [(bu,yS),(ca,Fb n)]) (ap (ac QB (ac (Ll n) ah))) rL (fun _=> Nat.le_of_ble_eq_true rfl) (zy n rfl rfl)
theorem Wb:Tri Tryz.prog ca s_cwalkA.pt:=fu (fun n=> Ll n) (gx (fun x h=> by obtain⟨⟨n,h1⟩,h2⟩:=h;exact⟨n,h1,h2⟩))
theorem Sr:Tri Tryz.prog dC (Bm).pt:=
 ak (S:=cj [(bF,s_cmeasA),(ca,s_cwalkA)]) (ap (ac Wc (ac Wb ah))) qE (fun _=> Nat.le_of_ble_eq_true rfl) (yz rfl rfl)
theorem NJ:Tri Tryz.prog cT (yT).pt:=
 ak (S:=cj [(dC,Bm)]) (ap (ac Sr ah)) rJ (fun _=> Nat.le_of_ble_eq_true rfl) (zx rfl)
theorem YD:Tri Tryz.prog iR (J4).pt:=
 ak (S:=cj []) (ap ah) Ic (fun _=> Nat.le_of_ble_eq_true rfl) (HI)
def FK:Nat→Spc:=cj [(cT,yT),(iR,J4)]
theorem Ye: ∀f,Tri Tryz.prog f (FK f).pt:=ap (ac NJ (ac YD ah))
theorem XF {S:Nat→Spc} (h: ∀f,Tri Tryz.prog f (S f).pt):Tri Tryz.prog bw (Kh S).pt:=
 ak (S:=cj [(b9,PE S)]) (ap (ac (ak (S:=S) h j6 (fun _=> Nat.le_of_ble_eq_true rfl) qd) ah)) iB (fun _=> Nat.le_of_ble_eq_true rfl) (ow rfl)
theorem XE {S:Nat→Spc} (h: ∀f,Tri Tryz.prog f (S f).pt):Tri Tryz.prog cf (Oj S).pt:=
 ak (S:=cj [(dz,Tm S)]) (ap (ac (ak (S:=S) h nK (fun _=> Nat.le_of_ble_eq_true rfl) ou) ah)) mw (fun _=> Nat.le_of_ble_eq_true rfl) (mD rfl)
theorem YF:Tri Tryz.prog dU (Ke).pt:=
 ak (S:=cj []) (ap ah) Id (fun _=> Nat.le_of_ble_eq_true rfl) (HO)
theorem qjX {p:Glob} (h:gh p≤0):False:=by rw[Az] at h;omega
theorem Lk: ∀n,Tri Tryz.prog dT (E4 n).pt
 | 0=> cM fun x h=> qjX h.1
 | n+1=> ak (S:=cj [(dT,E4 n)]) (ap (ac (Lk n) ah)) BF (fun _=> Nat.le_of_ble_eq_true rfl) (AX n rfl)
theorem Wa:Tri Tryz.prog dT s_gmeasA.pt:=fu (fun n=> Lk n) (gx (fun x h=> h))
def qh1 (n:Nat):Nat→Spc:=cj [(fB,Fh n)]
theorem Ln: ∀n,Tri Tryz.prog eV (Fg n).pt
 | 0=> cM fun x h=> qjX h.1.1
 | n+1=>
   have h1:Tri Tryz.prog fB (Fh n).pt:=ak (S:=cj [(eV,Fg n)]) (ap (ac (Ln n) ah)) BI (fun _=> Nat.le_of_ble_eq_true rfl) (Di n rfl)
   ak (S:=cj [(cf,Oj (qh1 n)),(dU,Ke)]) (ap (ac (XE (S:=qh1 n) (ap (ac h1 ah))) (ac YF ah))) DF (fun _=> Nat.le_of_ble_eq_true rfl) (HM (S0:=qh1 n) n rfl rfl rfl)
theorem We:Tri Tryz.prog eV s_atomsA.pt:=fu (fun n=> Ln n) (gx (fun x h=> by obtain⟨⟨n,h1⟩,h2⟩:=h;exact⟨n,h1,h2⟩))
theorem YC:Tri Tryz.prog gU (J2).pt:=
 ak (S:=cj []) (ap ah) ym (fun _=> Nat.le_of_ble_eq_true rfl) (HE)
theorem Wf:Tri Tryz.prog f7 (Fi).pt:=
 ak (S:=cj [(gU,J2),(dT,s_gmeasA),(eV,s_atomsA)]) (ap (ac YC (ac Wa (ac We ah)))) wk (fun _=> Nat.le_of_ble_eq_true rfl) (Ey rfl rfl rfl)
theorem Ss:Tri Tryz.prog dM (Bo).pt:=
 ak (S:=cj [(d9,tA),(bw,Kh FK),(f7,Fi),(cg,s_leavesQ),(aC,tB FK),(aU,qf (eT (bj 10) 10)),(cp,s_string),(bM,tn (aX 10)),(aa,s_wstr),(b5,oz),(bY,s_qstrats)]) (ap (ac rT (ac (XF Ye) (ac Wf (ac vw (ac (K6 Ye) (ac (AS 10) (ac LO (ac (NH 10) (ac ck (ac kY (ac nk ah)))))))))))) uL (fun _=> Nat.le_of_ble_eq_true rfl) (Dj (S0:=FK) rfl rfl rfl rfl rfl rfl rfl rfl rfl rfl rfl rfl rfl)
theorem Ds:Tri Tryz.prog o7 s_lFormats.pt:=
 ak (S:=cj [(AB,s_m_New),(kj,yO),(dM,Bo),(m6,Bc),(eW,s_eParse),(qI,JW),(jp,Bh)]) (ap (ac WC (ac EJ (ac Ss (ac Sv (ac vx (ac Y7 (ac EK ah)))))))) u5 (fun _=> Nat.le_of_ble_eq_true rfl) (vm rfl rfl rfl rfl rfl rfl rfl)
end Go.Gv

namespace Go.Gv
open Go.ChangeShapes Go.WideShapes Go.ChangeAt Go.RowKit
section
variable {H:Type} {ec:TypeId×Value→H} {P:Program} {w:World} {base:Nat} {spare:Nat→Bool} {held:Bool} {tp I:Nat→Prop}
def OpR (tp I:Nat→Prop) (w:World) (cs:List Value) (d:D):Prop:=cs.length=d.cells.length∧ ∀ (k:Nat) (y:Value) (c:D),cs[k]?=some y→d.cells[k]?=some c→y.oneCell'=true∧R tp I w y c
theorem OpR.one {y:Value} {d:D} (h:OpR tp I w [y] d) (hd:d.cells= [d]):R tp I w y d:=(h.2 0 y d rfl (by rw[hd];rfl)).2
theorem Y8 {t:TypeId} {fuel:Nat} {cs:List Value} {x:DataW H×List MemPlace} (ht:P.underlying t=some (.int .i64)) (h:DataW.trod ec P w base spare held fuel t cs=some x): ∃n:Int,OpR tp I w cs (Cod.enc n):=by
 obtain⟨n,rfl,_,_⟩:=DataW.trod_int ht h
 refine⟨n,rfl,fun k y c h1 h2=> ?_⟩
 cases k with
 | zero=> cases h1;cases h2;exact⟨rfl, .v _ rfl (fun s h=> by cases h)⟩
 | succ k=> simp at h1
theorem TG {Y:Type} [Cod Y] {t e:TypeId} (ht:P.underlying t=some (.slice e)) (hc:P.cellsOf e=Cod.wd Y) (h0:0 < Cod.wd Y)
 (hel: ∀ (n:Nat) (cs:List Value) (x:DataW H×List MemPlace),DataW.trod ec P w base spare held n e cs=some x→ ∃y:Y,OpR tp I w cs (Cod.enc y)) (hI: ∀b,b < w.heap.size→I b)
 {fuel:Nat} {cs:List Value} {x:DataW H×List MemPlace} (h:DataW.trod ec P w base spare held fuel t cs=some x): ∃l:List Y,OpR tp I w cs (Cod.enc l):=by
 have one: ∀ (v:Value) (l:List Y),v.oneCell'=true→R tp I w v (.list (Cod.wd Y) (l.map Cod.enc))→OpR tp I w [v] (Cod.enc l):=fun v l h1 h2=> ⟨rfl,fun k y c e1 e2=> by
  cases k with
  | zero=> cases e1;cases e2;exact⟨h1,h2⟩
  | succ k=> simp at e1⟩
 rcases DataW.trod_slice ht h with⟨rfl,_⟩ | ⟨a,len,cap,elems,rest,n,_,rfl,_,_,hl,hm,hlen,hel',_⟩
 ·exact⟨[],one _ [] rfl (.nolist none 0 _)⟩
 ·by_cases hz:len=0
  ·subst hz
   exact⟨[],one _ [] rfl (.nolist (some a) cap _)⟩
  ·have each: ∀i:_root_.Fin len,∃p:List Value×Y,w.cells? base (a.add (i*P.cellsOf e)) (P.cellsOf e)=some p.1∧OpR tp I w p.1 (Cod.enc p.2):=fun i=> by
    have h1:=hel' i i.2
    rw[List.getElem?_eq_getElem (by omega)] at h1
    obtain⟨cs',h2,h3⟩:=Option.bind_eq_some_iff.1 h1
    obtain⟨y,hy⟩:=hel n cs' _ h3
    exact⟨(cs',y),h2,hy⟩
   obtain⟨g,hg⟩:=Classical.axiomOfChoice each
   obtain⟨b,off,spot⟩:=a
   have cellAt: ∀ (i:_root_.Fin len) (j:Nat),j < Cod.wd Y→ ∃v,(g i).1[j]?=some v∧w.cell? ((Addr.add ⟨b,off,spot⟩ (i*Cod.wd Y)).add j)=some v:=fun i j hj=> by
    have h1:=World.cells?_some (hg i).1
    have h2:=h1.2.2 j (by rw[hc];exact hj)
    have h3:j < (g i).1.length:=by rw[h1.2.1,hc];exact hj
    refine⟨(g i).1[j],List.getElem?_eq_getElem h3,?_⟩
    rw[hc] at h2
    rw[h2,List.getElem?_eq_getElem h3]
   have hs:spot=none:=by
    obtain⟨v,_,h2⟩:=cellAt ⟨0,by omega⟩ 0 h0
    have:=World.cell?_spot h2
    simpa [Addr.add] using this
   subst hs
   have hadd: ∀ (o n:Nat),Addr.add ⟨b,o,none⟩ n=⟨b,o+n,none⟩:=fun o n=> by
    unfold Addr.add
    split
    ·rename_i e;subst e;rfl
    ·rfl
   have cellAt': ∀ (i:_root_.Fin len) (j:Nat),j < Cod.wd Y→ ∃v,(g i).1[j]?=some v∧w.cell? ⟨b,off+ (i*Cod.wd Y+j),none⟩=some v:=fun i j hj=> by
    obtain⟨v,h1,h2⟩:=cellAt i j hj
    refine⟨v,h1,?_⟩
    rw[hadd,hadd] at h2
    rw[←Nat.add_assoc]
    exact h2
   have hb:b < w.heap.size:=by
    obtain⟨v,_,h2⟩:=cellAt' ⟨0,by omega⟩ 0 h0
    unfold World.cell? at h2
    by_cases hlt:b < w.heap.size
    ·exact hlt
    ·simp only[Array.getElem?_eq_none (Nat.le_of_not_lt hlt)] at h2
     cases h2
   let es:List Y:=List.ofFn fun i=> (g i).2
   have hesl:es.length=len:=by simp[es]
   have hesi: ∀i:_root_.Fin len,(es.map Cod.enc)[(i:Nat)]?=some (Cod.enc (g i).2):=fun i=> by
    rw[List.getElem?_map]
    have:es[(i:Nat)]?=some (g i).2:=by simp[es]
    rw[this];rfl
   have hw: ∀d∈es.map Cod.enc,d.kn=true∧d.cells.length=Cod.wd Y:=fun d hd=> by
    obtain⟨y,_,rfl⟩:=List.mem_map.1 hd
    exact⟨Cod.kn y,Cod.wid y⟩
   have flatAt: ∀ (k:Nat) (c:D),(cJ (es.map Cod.enc))[k]?=some c→ ∃v,w.cell? ⟨b,off+k,none⟩=some v∧v.oneCell'=true∧R tp I w v c:=fun k c hk=> by
    have hkl:=(List.getElem?_eq_some_iff.1 hk).1
    rw[bP (fun d hd=> (hw d hd).2),List.length_map,hesl] at hkl
    have hdm:k=(k/Cod.wd Y) *Cod.wd Y+k % Cod.wd Y:=by have:=Nat.div_add_mod k (Cod.wd Y);rw[Nat.mul_comm] at this;omega
    have hmod:k % Cod.wd Y < Cod.wd Y:=Nat.mod_lt _ h0
    have hq:k/Cod.wd Y < len:=Nat.div_lt_of_lt_mul (by rw[Nat.mul_comm];exact hkl)
    have g1:=iu (es:=es.map Cod.enc) (fun d hd=> (hw d hd).2) (i:=k/Cod.wd Y) hmod
    rw[←hdm,hk,hesi ⟨k/Cod.wd Y,hq⟩] at g1
    simp only[Option.bind_some] at g1
    obtain⟨v,h1,h2⟩:=cellAt' ⟨k/Cod.wd Y,hq⟩ (k % Cod.wd Y) hmod
    simp only at h2
    rw[←hdm] at h2
    exact⟨v,h2,(hg ⟨k/Cod.wd Y,hq⟩).2.2 _ v c h1 g1.symm⟩
   have hR:R tp I w (.slice (some ⟨b,off,none⟩) len cap) (.list (Cod.wd Y) (es.map Cod.enc)):=by
    have hll: (es.map (Cod.enc (X:=Y))).length=len:=by simp[hesl]
    rw[←hll]
    have rd: ∀ (k:Nat) (c:D),(cJ (es.map Cod.enc))[k]?=some c→w.cell? ⟨b,off+k,none⟩=some ((w.cell? ⟨b,off+k,none⟩).getD Go.undef):=fun k c hk=> by
     obtain⟨v,h1,_⟩:=flatAt k c hk
     rw[h1];rfl
    refine .list b off cap _ (es.map Cod.enc) (fun k=> (w.cell? ⟨b,off+k,none⟩).getD Go.undef) (hI b hb) (by rw[hll];exact hl) hm hw rd (fun k c hk=> ?_) (fun k c hk=> ?_)
    ·obtain⟨v,h1,h2,_⟩:=flatAt k c hk
     rw[h1];exact h2
    ·obtain⟨v,h1,_,h2⟩:=flatAt k c hk
     rw[h1];exact h2
   exact⟨es,one _ es rfl hR⟩
end
end Go.Gv

namespace Go.Gv
open Go.ChangeShapes Go.WideShapes Go.ChangeAt Go.RowKit
section
variable {H:Type} {ec:TypeId×Value→H} {P:Program} {w:World} {base:Nat} {spare:Nat→Bool} {held:Bool} {tp I:Nat→Prop}
end
abbrev qeV (w:World):Nat→Prop:=cL (fun _=> False) (fun _=> False) cZ w
theorem Zd {w:World} {b:Nat} (h:b < w.heap.size):qeV w b:=⟨h,fun h=> h,fun h=> h,fun⟨i,r,h,_⟩=> by simp[cZ] at h⟩
end Go.Gv

namespace Go.Gv
open Go.ChangeShapes Go.WideShapes Go.ChangeAt Go.RowKit
section
variable {H:Type} {ec:TypeId×Value→H} {P:Program} {w:World} {base:Nat} {spare:Nat→Bool} {held:Bool} {tp I:Nat→Prop}
end
end Go.Gv

namespace Go.Gv
open Go.ChangeShapes Go.WideShapes Go.ChangeAt Go.RowKit
section
variable {H:Type} {ec:TypeId×Value→H} {P:Program} {w:World} {base:Nat} {spare:Nat→Bool} {held:Bool} {tp I:Nat→Prop}
end
theorem OH {P:Program} {f:Nat} {X:Type} {A:lB X} {p:X→Prop} {q:X→Bool→Prop} (h:Tri P f (cY A p (Cod.enc (X:=Bool)) q).pt) (hq: ∀x y,q x y→y=true) {w:World} {vs:List Value} {ds:List D} {x:X} (hp:p x) (hlen:vs.length=ds.length)
 (hR: ∀ (k:Nat) (y:Value) (c:D),vs[k]?=some y→ds[k]?=some c→R (fun _=> False) (qeV w) w y c) (hdec:A.dec ds=some x) (hG:GlW (fun _=> False) (fun _=> False) w):
 Calls P f vs.toArray w fun e w'=> e= .returned (.bool true)∧Below w.heap.size w w':=by
 obtain⟨_,hc⟩:=h (fun _=> False) (fun _=> False) w vs ds cZ 0 (fun r H'=> r= .v (.bool true)) (fun b h=> h.elim) ⟨fun b h=> h.elim,hG.mono (fun _ h=> h) (fun b ⟨i,r,h,_⟩=> by simp[cZ] at h)⟩
  ⟨fun i j r s b h=> by simp[cZ] at h,fun i r b h=> by simp[cZ] at h,fun i r h=> by simp[cZ] at h⟩ hlen hR
  (by rw[tj,hdec];exact⟨hp,fun y hy=> by rw[hq x y hy];rfl⟩)
 refine hc.mono ?_
 rintro e w' ⟨v,r,H',tp',rfl,hr,_,_,_,hs,_,_,hv⟩
 subst hr
 have hv':=hv.inv_v
 subst hv'
 exact⟨rfl,hs.os,hs.tape,hs.output,hs.size,fun k hk=> hs.same k hk (fun⟨i,r,h,_⟩=> by simp[cZ] at h) (fun h=> h)⟩
end Go.Gv

namespace Go.Gv
open Go.Proofs
theorem Zp {W : World} (h : Lib.TabIs Tryz.prog W "internal/strconv.uint64pow10" .u64 Lib.pow10Tab) : GlW (fun _ => False) (fun _ => False) W := by
 intro p hp
 simp only[vC,List.mem_singleton] at hp
 subst hp
 refine⟨id,id,?_⟩
 have hn : Tryz.prog.globalNamed "internal/strconv.uint64pow10" = some 1 := by kernel_rfl
 unfold Lib.TabIs World.var? at h
 rw[hn] at h
 simp only[Option.bind_some] at h
 split at h
 ·rename_i cs el z hz
  cases h
  exact⟨el,z,hz⟩
 ·cases h
theorem RJ {W : World} {a b : String × DataW Unit} {r : List (String × DataW Unit)} (h : laidMet Tryz.prog (a :: b :: ("internal/strconv.uint64pow10", Lib.tabData .u64 Lib.pow10Tab) :: r) W) : GlW (fun _ => False) (fun _ => False) W :=
 Zp (Lib.tabIs_of_head (g:=1) (t:=195) (e:=178) (n:=20) (by kernel_rfl) (by kernel_rfl) Tryz.underlying195 Tryz.underlying178 (by kernel_rfl) (by kernel_rfl) (laidMet.tail (laidMet.tail h)))
end Go.Gv
