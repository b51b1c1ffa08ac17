/- X8 -/
import Derived.Test.YtfpmgnnippjblaaGreatDoorGc27
import Derived.Test.YtfpmgnnippjblaaGreatDoorGc28
import Derived.Test.YtfpmgnnippjblaaGreatDoorGc19
set_option linter.all false
set_option maxRecDepth 100000
set_option maxHeartbeats 0
namespace Go.Gv
open Go.Proofs X
variable {dq:Prop}
def qrB:((ValsI++QT).all λv=>quX (MP Δ qpC 10000 nY [.v (.string v)] ⟨.e, [], [],0⟩))=true:=by kernel_rfl
def qFA:∀v∈ValsI,IR v=true:=by
 intro v a;simp only[ValsI,qGm,qGz,or_false]at a;rcases a with rfl|rfl|rfl|rfl|rfl|rfl|rfl|rfl|rfl|rfl
 ·exact qFK
 ·exact qFJ
 ·exact qFI
 ·exact qFH
 ·exact qFG
 ·exact qFF
 ·exact qFE
 ·exact qFD
 ·exact qFC
 ·exact qFB
open Cod (enc dec)
def qch:Tri dq Tryz.prog rW s_rMatches.pt:=by
 refine qs (qtP (fn:=Cf) rfl 10000) ?_;rintro⟨v,w,f⟩ ⟨c,d⟩;have h0:=qGa.1 (qFA v c) w d;simp only[qF9]at h0;have h:sX v w f=true:=by cases f;exact h0.1;exact h0.2
 unfold sX at h;refine⟨rfl,?_⟩;split at h
 ·rename_i b hb;unfold qEx at h;split at h
  ·rename_i t h1 j;have e:t=b:=by simpa using h
   subst e;exact⟨_,_,t,j,λρ r' a=>by cases a;exact .same _,hb⟩
  ·cases h
 ·cases h
def qop(f:Nat)(cs:List D):∀(k:Nat) (c c':D),cs[k]? =some c->(List.replicate f D.any)[k]? =some c'->FrzTo dm c c':=by
 intro k c c' _ h;have:=List.mem_replicate.1 (qF7 h);rw[this.2];exact .any _
theorem Sx:Tri dq Tryz.prog nY s_rParse0.pt:=by
 refine qs (qtP (fn:=Hg) rfl 10000) ?_;intro v q;have h:=qGa.1 qrB v (qGi.2 q);refine⟨rfl,?_⟩;unfold quX at h;split at h
 ·rename_i y A C E F a b h1 r;simp only[qF9,decide_eq_true_eq]at h;obtain⟨rfl,rfl⟩:=h;refine⟨_,_,(),r,λρ r' j=>?_,trivial⟩;cases j with
  | tup cs ds hl hh=>
    match ds,hl with
    | [s,t,u],_=>
      have h0:=hh 0 _ s rfl rfl;have h2:=hh 1 _ t rfl rfl;have h3:=hh 2 _ u rfl rfl;cases h2;cases h3;cases h0 with
      |agg w l p x=>
      refine .tup rfl λk c c' hc d=>?_
      match k with
      | 0=>
        simp at hc d;subst hc;subst d;exact .agg (by simpa using p.symm) (qop 5 l)
      | 1=>simp at hc d;subst hc;subst d;exact .same _
      | 2=>simp at hc d;subst hc;subst d;exact .same _
      |k+3=>simp at hc
 ·cases h
open Go.Proofs Cod
def qdY{P:Program}{f:Nat}{A:Nat->PT}{j:PT}(h:∀n,Tri dq P f (A n))(hs:∀d ds H K,j d ds H K->∃n,A n d ds H K):Tri dq P f j:=
 λO tp w vs ds H d K a b c e g k=>(hs d ds H K k).elim λn hn=>h n O tp w vs ds H d K a b c e g hn
def qd0{X Y:Type}{A:fN X}{pre:Nat->X->Prop}{a:X->Prop}{er:Y->D}{post:X->Y->Prop}(b:∀x,a x->∃n,pre n x):∀d ds H K,(ax A a er post).pt d ds H K->∃n,(ax A (pre n) er post).pt d ds H K:=by
 intro d ds H K h;rw[lZ]at h;cases e:A.dec ds with
 |none=>rw[e]at h;exact h.elim
 | some x=>
   rw[e]at h;obtain⟨h1,h2⟩:=h;obtain⟨n,hn⟩:=b x h1;exact⟨n,by rw[lZ,e];exact⟨hn,h2⟩⟩
def nV{P:Program}{f:Nat}{X Y:Type}{A:fN X}{pre:X->Prop}{er:Y->D}{post:X->Y->Prop}(j:∀x,¬pre x):Tri dq P f (ax A pre er post).pt:=λO tp w vs ds H d K a b c e g h=>by
 rw[lZ]at h;cases e:A.dec ds with
 |none=>rw[e]at h;exact h.elim
 |some x=>rw[e]at h;exact(j x h.1).elim
def ue:Tri dq Tryz.prog ga s_rAttr.pt:=ac (ag ae) KE Mr
def qlE:Tri dq Tryz.prog Je s_rIn.pt:=ac (ag ae) qgp qhQ
def qbc:Tri dq Tryz.prog wX s_rShape.pt:=ac (ag ae) VI XW
def qdu:Tri dq Tryz.prog GH s_rnode.pt:=aY (S:=Kj [(wX,s_rShape),(ga,s_rAttr),(nY,s_rParse0),(jw,s_rIsF),(Je,s_rIn),(aK,s_rVName),(bQ,s_rVVal)])
 (ag (aa qbc (aa ue (aa Sx (aa qqw (aa qlE (aa qih (aa qnc ae)))))))) ZR (λ_=>qF8 rfl) (qbN rfl rfl rfl rfl rfl rfl rfl)
def Jt:∀n,TQ dq sI (Zb n)
 | 0=>nV λx h=>h.1
 |n+1=>aY (ag (aa qdu (aa (Jt n) ae))) VG (λ_=>qF8 rfl) (XU n rfl rfl)
def qba:Tri dq Tryz.prog sI s_rfirstA.pt:=qdY Jt (qd0 λx h=>h)
def Ju:∀n,TQ dq sJ (Zd n)
 | 0=>nV λx h=>by
   have:=Bw x.1;have:=h.1;omega
 |n+1=>aY (ag (aa (Ju n) ae)) VH (λ_=>qF8 rfl) (XV n rfl)
def qbb:Tri dq Tryz.prog sJ s_rcountA.pt:=qdY Ju (qd0 λx h=>h)
def DQ:Tri dq Tryz.prog sK s_rNodes.pt:=ac (ag (aa qbb ae)) VJ (XX rfl)
def DP:Tri dq Tryz.prog pG s_rVal.pt:=ac (ag (aa DQ (aa qba ae))) MU (NW rfl rfl)
def Js:∀n,TQ dq wW (OJ n)
 | 0=>nV λx h=>h.2.1
 |n+1=>aY (ag (aa (Js n) (aa ue (aa qch (aa qnd ae))))) VF (λ_=>qF8 rfl) (XT n rfl rfl rfl rfl)
end Go.Gv
