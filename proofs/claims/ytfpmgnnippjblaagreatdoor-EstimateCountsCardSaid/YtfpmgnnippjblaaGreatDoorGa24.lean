/- Asm27 -/
import Derived.Shelf.SortG.Plain
import Derived.Shelf.SortG.SortNone
import Derived.Shelf.SlGeneric
import Derived.Shelf.SlLaysF0
import Derived.Shelf.SlLaysNS
import Derived.Ground.SlsfProg
import Derived.Ground.SlgnProg
import Derived.Test.YtfpmgnnippjblaaGreatDoorProg
import Derived.Shelf.SlIterI.Sorted
import Derived.DataShut
import Derived.Test.YtfpmgnnippjblaaGreatDoorGa23
set_option linter.all false
set_option maxRecDepth 100000
set_option maxHeartbeats 0
open Bool renaming forall_bool → fB', exists_bool → eB'
namespace Go.Gv
section
open Go.Proofs Cod
variable {dq:Prop}
def qmM:TQ dq nV RT:=
 ac (ag ae) Pa (qiH)
def qjs:TQ dq dm RW:=
 ac (ag (aa gV ae)) xt (qiK rfl)
def qso:Nat->Spc:=H7 [(nV,RT),(dm,RW)]
def qjw:TQ dq fu (qa3 qso):=
 ac (S:=qso) (ag (aa qmM (aa qjs ae))) tM qiO
def qbb:TQ dq cR (R1 qso):=
 ac (ag (aa qjw ae)) rb (qiP rfl)
def qmN:TQ dq eK Zg:=
 ac (ag (aa gV ae)) A0 (qmb rfl)
def qvH:Nat->Spc:=H7 [(eK,Zg)]
def qmP:TQ dq fq (qfh qvH):=
 ac (S:=qvH) (ag (aa qmN ae)) tK qmc
def qmQ:TQ dq eH (qfj qvH):=
 ac (ag (aa qmP ae)) qZ (qmd rfl)
def qfz:TQ dq nW VP:=
 ac (ag (aa lT (aa dz (aa gV (aa qmQ (aa De ae)))))) D2 (qej (S0:=qvH) rfl rfl rfl rfl rfl rfl)
def Wc:∀n,TQ dq gH (qaY n)
 | 0=>bF λx h=>by have:=h.1;have:=Cf x.1;omega
 |n+1=>aZ (ag (aa qfz (aa (Wc n) ae))) Ge (λ_=>qBg rfl) (qiL n rfl rfl)
def qjt:TQ dq gH VR:=cK (λn=>Wc n) (dC (λx h=>⟨fl x.1,qBj _,h⟩))
def qmK:TQ dq yT qaP:=
 ac (ag ae) O8 (Oz)
def qba:∀n,TQ dq iM (VF n)
 | 0=>bF λx h=>by have:=h.1;have:=Cf x.1;omega
 |n+1=>aZ (ag (aa (qba n) ae)) It (λ_=>qBg rfl) (HO n rfl)
def qmL:TQ dq iM VG:=cK (λn=>qba n) (dC (λx h=>h))
def qmO:TQ dq dS qa1:=
 ac (ag ae) Pb (OE)
def qvG(n:Nat):Nat->Spc:=H7 [(fF,Mk n)]
def Wd:∀n,TQ dq lP (VV n)
 | 0=>bF λx h=>by have:=h.1.1;have:=Cf x.1;omega
 | n+1=>
   have h1:TQ dq fF (Mk n):=ac (ag (aa (Wd n) ae)) Iv (Kg n rfl);have h2:TQ dq eb (qfi (qvG n)):=ac (S:=qvG n) (ag (aa h1 ae)) pN qO;have h3:TQ dq dj (qfk (qvG n)):=ac (ag (aa h2 ae)) mS (mU rfl)
   ac (ag (aa h3 (aa qmO ae))) ML (OD (S0:=qvG n) n rfl rfl rfl)
def qju:TQ dq lP VW:=cK (λn=>Wd n) (dC (λx h=>by obtain⟨⟨n,h1⟩,h2⟩:=h;exact⟨n,h1,h2⟩))
def qjv:TQ dq wg VX:=
 ac (ag (aa qmK (aa qmL (aa qju ae)))) MN (LF rfl rfl rfl)
def qjr:TQ dq jW qaX:=
 ac (ag (aa CX (aa vz (aa Fy (aa AE (aa qbb ae)))))) Ad (qiJ (N:=qd5) (N2:=qso) rfl rfl rfl rfl rfl rfl rfl rfl)
def Zo:TQ dq pX (qaO Pw):=
 ac (ag (aa qjr (aa AE (aa AD (aa rA (aa qbb (aa qjv (aa qjt ae)))))))) Gf (qiD (N:=qso) rfl rfl rfl rfl rfl rfl rfl rfl)
def FB:TQ dq gI CZ:=
 cK (λn=>xJ n) (dC (λx h=>⟨x.2.1.toNat+1,Nat.lt_succ_self _,h⟩))
def JK:∀n,TQ dq rq (FS n)
 | 0=>bF λx h=>absurd h.1 (Nat.not_lt_zero _)
 |n+1=>aZ (ag (aa (JK n) ae)) SE (λ_=>qBg rfl) (Rq n rfl)
def UZ:TQ dq rq CY:=
 cK (λn=>JK n) (dC (λx h=>by obtain⟨n,h⟩:=h;exact⟨n+1,Nat.succ_pos _,h⟩))
def Wb:∀n,TQ dq Bu (PX n)
 | 0=>bF λx h=>absurd h.1 (Nat.not_lt_zero _)
 |n+1=>aZ (ag (aa UZ (aa (Wb n) ae))) qcZ (λ_=>qBg rfl) (qcn n rfl rfl)
def qet:TQ dq Bu Mc:=
 cK (λn=>Wb n) (dC (λx h=>by obtain⟨n,h⟩:=h;exact⟨n+1,Nat.succ_pos _,h⟩))
def Qa:∀n,TQ dq pY (WK n)
 | 0=>qT λd ds H K ⟨id,v,l,a,x,h1,h2,h3,h4,h5⟩=>qcQ h4.1
 |n+1=>xV (ag (aa (Qa n) ae)) MR (by decide) (UN n rfl)
def Ju:Tri dq Tryz.prog pY i_BoundA2.pt:=cK (λn=>Qa n) λd ds H K ⟨id,v,l,a,x,h1,h2,h3,h4,h5⟩=>⟨dJ x,id,v,l,a,x,h1,h2,h3,⟨qBj _,h4⟩,h5⟩
def qcw:Tri dq Tryz.prog pY s_Bound2.pt:=LP (BY (ag (aa Ju ae)) MR (λ_=>qBg rfl) (UO rfl)) Ju
def sG:∀n,TQ dq eL (zI n)
 | 0=>bF λx h=>absurd h.1 (Nat.not_lt_zero _)
 |n+1=>aZ (ag (aa dg (aa Hj (aa (sG n) ae)))) A3 (λ_=>qBg rfl) (Kk n rfl rfl rfl)
def Cx:TQ dq eL xc:=
 cK (λn=>sG n) (dC (λx h=>h))
def Kt:TQ dq rW JF:=
 ac (ag (aa dg (aa Hj ae))) IA (UM rfl rfl)
def LN:TQ dq ua Md:=
 ac (ag (aa dg (aa FB (aa qcw (aa qet (aa Cx (aa Kt ae))))))) KM (YI rfl rfl rfl rfl rfl rfl)
end
section
open Cod (enc dec)
variable {S S0:Nat->Spc}
def qai(_:D×Unit)(l r:List Span):Prop:=r.length=l.length/\(∀x,x∈r↔x∈l)/\WS r
abbrev L9:Spc:=aA (a2 (List Span) (List Span)) (λ_=>True) enc λx y=>y=decide (x.1=x.2)
def Yx:aq BD AM S (a2 (List Span) (List Span)) (λ_=>True) enc λx y=>y=decide (x.1=x.2):=by
 rintro⟨a,b⟩ -;simp[BD,AM];intro h1 h2;refine⟨λh3=>?_,λh3 _=>?_⟩
 ·intro e;subst e;omega
 ·have l:a.length=b.length:=by omega
  refine ah (X:=Unit) [0,1] [] a.length (λk _=>a.take k=b.take k) (λ_=>[]) (λ_=>[]) () (by simp) ?_ ?_
  ·intro k _ hk c;simp;refine⟨hk,λx j=>⟨by omega,λy d=>⟨λh=>?_,λh4 h5=>?_⟩⟩⟩
   ·intro e;subst e;rw[j]at d;cases d;simp at h
   ·rw[au j,au d,c,Span.ext' h4 h5]
  ·intro _ c;simp;rw[qBQ (by omega),qBQ (by omega)]at c;exact c
end
section
open Go.Proofs
def lB:CC:=gq Tryz.f101 [2,3] {} _
def lc:List ai:=[.tmp 4]
def oY:CC:=gq Tryz.f165 [] {} _
def ny:List ai:=[.tmp 4]
def oW:CC:=gq Tryz.f166 [2] {} _
def nt:List ai:=[.tmp 4]
def bp:CC:=gq Tryz.f99 [4,1047047,2049000,1047047] { bx:=[0] } _
def bi:List ai:=[]
def pa:CC:=oX [oB 1 (.box bB true (oT 0)),oB 2 (.mv (.const on))] [1] [] (.seq (oX [oD 5 13 1,oZ 6 sT [oT 5],oA 3 6] [1,3] [] (oX [oA 7 3,oB 8 (.cmp .lss (oT 7) (oN 1)),oA 9 8,oI 10 9 (.mv (oT 3)),oI 11 9 (.cmp .gtr (oT 10) (oN 256)),oB 12 (.pick (oT 9) (.const (.bool true)) (oT 11))] [1,12] [] (.ite (oT 12) (oX [
 oB 2 (.mv (.const on))] [2] [] (.ret)) (.skip)))) (.keep [1] [] (Y9 5 (.reg [oB 13 (.build [oi,on] []),oB 14 (.box DJ false (oT 13)),oA 4 14]) (.keep [1,4] [14,47] (oX [oA 15 4,oD 16 13 1,oB 17 (.bslice bP 1 [oN 0]),oZ 18 bw [oT 15,oT 16,oT 17]] [4] [14,47] (oX [oA 19 4,oG 20 19,oE 21 1 20,oC 22 1 21,
 oZ 23 gc [oT 22,.func eZ]] [4] [14,47] (oX [oA 24 4,oG 25 24,oE 26 1 25,oC 27 1 26,oZ 28 eA [oT 27],oA 2 28] [2] [47] (.ret))))))))
def nz:List ai:=[.tmp 2]
def je:CC:=gq Tryz.f223 [] { bx:=[0],fz:=[(59,0)],cu:=[11] } _
def iS:List ai:=[.tmp 2]
def gh:CC:=gq Tryz.f102 [] { bx:=[0],fz:=[(59,0)],cu:=[11] } _
def fY:List ai:=[.tmp 2]
def ok_estimate_compare:FO eZ [2,3] lB lc 17:=fo
def Gk:FO gJ [] oY ny 22:=fo
def Gj:FO kM [2] oW nt 41:=fo
def vV:FO bw [4,1047047,2049000,1047047] bp bi 94:=fo
def Gl:FO qa [1] pa nz 29:=fo
def zY:FO jR [] je iS 61:=fo
def vT:FO eA [] gh fY 61:=fo
open Cod (enc dec)
variable {S S0:Nat->Spc}
def Hw(p:Pat):Prop:=eY p<=1000000/\uP p<=100000
def vv(p:Pat)(y:List Span):Prop:=if fk aB p=true/\gw p<=256 then SrcsOf p y else y=[]
abbrev xg:Spc:=qqB (Y:=Span) a0 (λ_ l=>l.length<=100000) (λ_ l r=>r=uN l) cF 2
theorem wQ:TU (Y:=Span) gh fY S a0 (λ_ l=>l.length<=100000) (λ_ l r=>r=uN l) cF 2:=by
 rintro v l ⟨⟩ hl;simp[gh,fY];refineλ_=>⟨λh=>?_,λh2=>?_⟩
 ·exact du l (by simp) (NE (by omega)).symm
 ·refine aF (X:=Nat) [0] [0] (λk=>1<=k/\k<=l.length/\uN (l.take k)=l.take k) (λk=>[(3,enc (k:Int))]) (λ_=>[]) (λk=>l.length -k) 1 ?_ ?_;grind [qho]
  ·rintro k ⟨A,C,t⟩;by_cases s:k<l.length
   ·obtain⟨x,E⟩:=aY s;obtain⟨y,M⟩:=aY (l:=l) (k:=k -1) (by omega);have O:((k:Int) -1).toNat=k -1:=by omega
    have e2:((k:Int)<l.length):=by omega
    have F:¬l.length<=k:=by omega
    simp[E,M,InR,O,F];intro _ _;have c:=QL A E M;refine⟨s,by omega,by omega,by omega,by omega,λQ U=>⟨C,?_⟩,λd=>⟨by omega,k+1,⟨by omega,by omega,?_⟩,by omega,by omega⟩⟩
    ·-- from here on elements W I
     have J:x=y:=Span.ext' Q U;rw[if_pos J]at c;refine ba (X:=Nat×List Span) [0] [] (λz=>z.2.length=l.length/\z.1<=l.length/\z.2.take z.1=uN l) (λz=>[(3,enc (z.1:Int))]) (λz=>[(0, .row v cF 2 (z.2.map enc))]) ?_ ?_
     ·simp;refine aF (X:=Nat×Nat×List Span) [0,4] [] (λz=>z.2.2.length=l.length/\1<=z.2.1/\k+z.2.1<=l.length/\z.1<k+z.2.1/\z.2.2.take z.1=uN (l.take (k+z.2.1))/\z.2.2.drop (k+z.2.1 -1)=l.drop (k+z.2.1 -1)) (λz=>[(3,enc (z.1:Int)),(5,enc (z.2.1:Int))]) (λz=>[(0, .row v cF 2 (z.2.2.map enc))]) (λz=>l.length -z.2.1) (k,1,l) ?_ ?_
      ·simp;refine⟨by omega,?_⟩;rw[c,t]
      ·rintro⟨i,j,cur⟩ ⟨c1,c2,c3,c4,w,q⟩;simp at c1 c2 c3 c4 w q;by_cases hj:j<l.length -k
       ·obtain⟨a,N⟩:=aY (l:=l) (k:=k+j) (by omega);obtain⟨b,hb⟩:=aY (l:=l) (k:=k+j -1) (by omega);have K:cur[k+j]? =some a:=(Ln q (by omega)).trans N;have L:cur[k+ (j -1)]? =some b:=by
         rw[show k+ (j -1)=k+j -1 by omega];exact(Ln q (qBj _)).trans hb
        obtain⟨u,Z⟩:=aY (l:=cur) (k:=i) (by omega);have hs:=QL (j:=k+j) (by omega) N hb;have p:¬l.length -k<=j:=by omega
        simp[K,L,Z,InR,p];intro _ _;refine⟨by omega,by omega,by omega,by omega,by omega,by omega,λd=>⟨by omega,by omega,by omega,by omega,by omega,i+1,j+1,cur.set i a,⟨by simp;omega,by omega,by omega,by omega,?_,?_⟩,⟨by omega, .inl ?_⟩,by omega⟩,λq3 q4=>⟨by omega,i,j+1,cur,⟨c1,by omega,by omega,by omega,?_,?_⟩,⟨by omega, .inl rfl⟩,by omega⟩⟩
        ·rw[(qv (m:=k+j) (l:=l) (by omega) c4 (tc q (by omega))).1,w,show k+ (j+1)=k+j+1 by omega,hs,if_neg];rintro rfl;rcases d with h|h<;>exact h rfl
        ·rw[show k+ (j+1) -1=k+j by omega];exact(qv (m:=k+j) (l:=l) (by omega) c4 (tc q (by omega))).2
        ·exact qeN cur i a
        ·rw[w,show k+ (j+1)=k+j+1 by omega,hs,if_pos (Span.ext' q3 q4)]
        ·exact tc q (by omega)
       ·have p:j=l.length -k:=by omega
        subst p;simp;intro _;refine⟨i,cur,⟨c1,by omega,?_⟩,rfl, .inl rfl⟩;rw[w,show k+ (l.length -k)=l.length by omega,qBm]
     ·rintro⟨i,cur⟩ ⟨c1,c2,c3⟩;simp at c1 c2 c3;simp;refine⟨by omega,by omega,λv=>du (uN l) ?_ rfl⟩;have e:(uN l).map enc=(cur.map enc).take i:=by rw[<-c3,List.map_take]
      rw[e];simp[List.take_append,c1,c2]
    ·rw[if_neg (λe=>by subst e;exact d rfl rfl)]at c;rw[c,t,au E]
   ·have F:k=l.length:=by omega
    subst F;simp;rw[qBm]at t;exactλ_=>du l (by simp) t.symm
section
variable {α:Type}[DecidableEq α]
def qo9(l:List α)(x:α):List α:=if l.getLast? =some x then l else l++ [x]
def ue(l:List α):List α:=l.foldl qo9 []
theorem Cj(l:List α)(x:α):ue (l++ [x])=qo9 (ue l) x:=by simp[ue]
def qdJ(l:List α):(ue l).getLast? =l.getLast?:=by
 refine ta (P:=λl=>(ue l).getLast? =l.getLast?) rfl (λl x a=>?_) l;grind [Cj,qo9]
def qhr(l:List α):(ue l).length<=l.length:=by
 refine ta (P:=λl=>(ue l).length<=l.length) (qBj _) (λl x a=>?_) l;grind [Cj,qo9]
def qhq(l:List α):∀x,x∈ue l↔x∈l:=by
 refine ta (P:=λl=>∀x,x∈ue l↔x∈l) (λx=>qCE) (λl y a x=>?_) l;grind [Cj,qo9]
def NF{l:List α}(h:l.length< 2):ue l=l:=by
 match l,h with
 | [],_=>rfl
 | [x],_=>rfl
 |x::y::l,h=>grind
theorem qhp{l:List α}(h:1<=l.length):ue (l.take 1)=l.take 1:=NF (by grind)
def QN{l:List α}{j:Nat}{x y:α}(b:1<=j)(a:l[j]? =some x)(c:l[j -1]? =some y):ue (l.take (j+1))=if x=y then ue (l.take j)else ue (l.take j) ++ [x]:=by
 rw[au a,Cj,qo9,qdJ];grind
end
abbrev C0:Spc:=qqB (Y:=Int) a0 (λ_ l=>l.length<=100000) (λ_ l r=>r=ue l) bP 1
theorem At:TU (Y:=Int) je iS S a0 (λ_ l=>l.length<=100000) (λ_ l r=>r=ue l) bP 1:=by
 rintro v l ⟨⟩ hl;simp[je,iS];refineλ_=>⟨λh=>?_,λh2=>?_⟩
 ·exact du l (by simp) (NF (by omega)).symm
 ·refine aF (X:=Nat) [0] [0] (λk=>1<=k/\k<=l.length/\ue (l.take k)=l.take k) (λk=>[(3,enc (k:Int))]) (λ_=>[]) (λk=>l.length -k) 1 ?_ ?_;grind [qhp]
  ·rintro k ⟨w,A,C⟩;by_cases s:k<l.length
   ·obtain⟨x,E⟩:=aY s;obtain⟨y,M⟩:=aY (l:=l) (k:=k -1) (by omega);have O:((k:Int) -1).toNat=k -1:=by omega
    have e2:((k:Int)<l.length):=by omega
    have F:¬l.length<=k:=by omega
    simp[E,M,InR,O,F];intro _ _;have c:=QN w E M;refine⟨s,by omega,by omega,by omega,by omega,λQ=>⟨A,?_⟩,λd=>⟨by omega,k+1,⟨by omega,by omega,?_⟩,by omega,by omega⟩⟩
    ·-- from here on elements U I
     have J:x=y:=Q;rw[if_pos J]at c;refine ba (X:=Nat×List Int) [0] [] (λz=>z.2.length=l.length/\z.1<=l.length/\z.2.take z.1=ue l) (λz=>[(3,enc (z.1:Int))]) (λz=>[(0, .row v bP 1 (z.2.map enc))]) ?_ ?_
     ·simp;refine aF (X:=Nat×Nat×List Int) [0,4] [] (λz=>z.2.2.length=l.length/\1<=z.2.1/\k+z.2.1<=l.length/\z.1<k+z.2.1/\z.2.2.take z.1=ue (l.take (k+z.2.1))/\z.2.2.drop (k+z.2.1 -1)=l.drop (k+z.2.1 -1)) (λz=>[(3,enc (z.1:Int)),(5,enc (z.2.1:Int))]) (λz=>[(0, .row v bP 1 (z.2.2.map enc))]) (λz=>l.length -z.2.1) (k,1,l) ?_ ?_;grind
      ·rintro⟨i,j,cur⟩ ⟨c1,c2,c3,c4,t,q⟩;simp at c1 c2 c3 c4 t q;by_cases hj:j<l.length -k
       ·obtain⟨a,N⟩:=aY (l:=l) (k:=k+j) (by omega);obtain⟨b,hb⟩:=aY (l:=l) (k:=k+j -1) (by omega);have K:cur[k+j]? =some a:=(Ln q (by omega)).trans N;have L:cur[k+ (j -1)]? =some b:=by
         rw[show k+ (j -1)=k+j -1 by omega];exact(Ln q (qBj _)).trans hb
        obtain⟨u,W⟩:=aY (l:=cur) (k:=i) (by omega);have hs:=QN (j:=k+j) (by omega) N hb;have p:¬l.length -k<=j:=by omega
        simp[K,L,W,InR,p];intro _ _;refine⟨by omega,by omega,by omega,by omega,by omega,by omega,λd=>⟨by omega,by omega,by omega,by omega,by omega,i+1,j+1,cur.set i a,⟨by simp;omega,by omega,by omega,by omega,?_,?_⟩,⟨by omega, .inl ?_⟩,by omega⟩,λZ=>⟨by omega,i,j+1,cur,⟨c1,by omega,by omega,by omega,?_,?_⟩,⟨by omega, .inl rfl⟩,by omega⟩⟩
        ·rw[(qv (m:=k+j) (l:=l) (by omega) c4 (tc q (by omega))).1,t,show k+ (j+1)=k+j+1 by omega,hs,if_neg];rintro rfl;exact d rfl
        ·rw[show k+ (j+1) -1=k+j by omega];exact(qv (m:=k+j) (l:=l) (by omega) c4 (tc q (by omega))).2
        ·exact(qDm ..).symm
        ·rw[t,show k+ (j+1)=k+j+1 by omega,hs,if_pos (Z)]
        ·exact tc q (by omega)
       ·have p:j=l.length -k:=by omega
        subst p;simp;intro _;refine⟨i,cur,⟨c1,by omega,?_⟩,rfl, .inl rfl⟩;rw[t,show k+ (l.length -k)=l.length by omega,qBm]
     ·rintro⟨i,cur⟩ ⟨c1,c2,c3⟩;simp at c1 c2 c3;simp;refine⟨by omega,by omega,λv=>du (ue l) ?_ rfl⟩;have e:(ue l).map enc=(cur.map enc).take i:=by rw[<-c3,List.map_take]
      rw[e];simp[List.take_append,c1,c2]
    ·rw[if_neg (λe=>by subst e;exact d rfl)]at c;rw[c,C,au E]
   ·have F:k=l.length:=by omega
    subst F;simp;rw[qBm]at C;exactλ_=>du l (by simp) C.symm
def Ua(x:List Int×Int):Prop:=x.1.length<=100000/\0<=x.2/\x.2<=1000000/\∀a∈x.1,0<=a/\a<=1000000000000000
abbrev kE:Spc:=aA (a2 (List Int) Int) Ua (enc (X:=List Int)) (λx y=>y=x.1.map (· +x.2))
theorem HT:aq oY ny S (a2 (List Int) Int) Ua (enc (X:=List Int)) (λx y=>y=x.1.map (· +x.2)):=by
 rintro⟨l,n⟩ ⟨hl,b,c,j⟩;simp only at hl b c j;simp[oY,ny];intro _;refine ah (X:=Value×List Int) [1,8] [] l.length (λk x=>x.2=(l.take k).map (· +n)) (λx=>[(5, .own 19 x.1)]) (λx=>[(19, .row x.1 bP 1 (x.2.map enc))]) (.slice none 0 0, []) (by simp) ?_ ?_ (hh:=by simp[isNilRow])
 ·rintro k ⟨v,m⟩ a hm;simp only at hm;obtain⟨x,d⟩:=aY a;have p:=j x (aP d);obtain⟨_,h⟩:=qBc.1 d;have q:m.length=k:=by grind
  simp[a,d,h];refine⟨by grind [InR],by omega,by omega,λv=> .inl ?_⟩;simp_all [qB8]
 ·rintro⟨v,m⟩ hm;simp only at hm;rw[qBm]at hm;simp;exact br m (fM bP (by simp)) hm
abbrev s_Sort_int:Spc:=qoZ (Y:=Int) a0 (λ_ l=>l.length<=100000) (λ_ l r=>r.length=l.length/\∀x,x∈r↔x∈l) bP 1
def T0(x:Pat×List Int):Prop:=x.1.op=6/\fk aB x.1=true/\x.2.length*uP x.1<=100000/\∀a∈x.2,0<=a/\a<=1000000000000000
def qb4(x:Pat×List Int)(y:List Int):Prop:=y.length<=x.2.length* (max 1 x.1.mn).toNat/\∀b,x.1.kids=[b]->∀z,z∈y↔ ∃a∈x.2,∃i:Int,0<=i/\i<x.1.mn/\(i=0\/(cq b).1=(cq b).2)/\z=a+i* (cq b).1
abbrev pq:Spc:=aA (a2 Pat (List Int)) T0 (enc (X:=List Int)) qb4
theorem HS(h1:S lQ=Lg)(h2:S gJ=kE)(h3:S vg=s_Sort_int)(h4:S jR=C0):aq oW nt S (a2 Pat (List Int)) T0 (enc (X:=List Int)) qb4:=by
 rintro⟨p,l⟩ ⟨ho,hp,hl,C⟩;simp only at ho hp hl C;rcases B7 (gE hp).1 with⟨q,_⟩|⟨q,_⟩|⟨q,_⟩|⟨_,d,j⟩
 omega;omega;omega;have E:=xp hp (show d∈p.kids by grind);have s:lW (cq d):=Q3 d E;have hn:=(gE hp).2.2;unfold nE at hn;rw[decide_eq_true_eq]at hn;have hn:=hn ho;have I:uP p=(max 1 p.mn).toNat*uP d:=by simp_all [vn,sH]
 have t:=XI d;have J:l.length* (max 1 p.mn).toNat<=100000:=by
  have:=Nat.mul_le_mul_left (l.length* (max 1 p.mn).toNat) t;grind [Nat.mul_assoc]
 have u:l.length<=100000:=by
  have:=Nat.mul_le_mul_left l.length (show 1<=(max 1 p.mn).toNat by omega);omega
 simp[oW,nt,h1,j,E,lH];refine⟨λhe=>br [] (by simp) ⟨by simp,λk hk z=>?_⟩,λK=>⟨λF=>br l (by simp) ⟨?_,λk hk z=>?_⟩,λF=>?_⟩⟩;grind
 ·exact qCU _ (by omega)
 ·rw[j]at hk;cases hk;constructor
  ·intro h;exact⟨z,h,0,qCi _,by grind, .inl rfl,by simp⟩
  grind
 ·refine ah (X:=Value×List Int) [1,5] [] p.mn.toNat (λk x=>x.2.length=l.length*k/\∀z,z∈x.2↔ ∃a∈l,∃i:Int,0<=i/\i<k/\z=a+i* (cq d).1) (λx=>[(7, .own 35 x.1)]) (λx=>[(35, .row x.1 bP 1 (x.2.map enc))]) (.slice none 0 0, []) (by grind) ?_ ?_ (hn:=by simp;omega) (hh:=by simp[isNilRow])
  ·rintro k ⟨v,m⟩ L ⟨hm,c⟩;simp only at hm c;unfold lW at s;have w:=uZ (show(0:Int)<=k by omega) (show(k:Int)<=16 by omega) s.1 s.2.1;have M:Ua (l,(k:Int) * (cq d).1):=⟨u,w.1,by omega,C⟩
   simp[h2,M];clear h1 h2 h3 h4;have hb:m.length+l.length<=100000:=by
    have:=Nat.mul_le_mul_left l.length (show k+1<=(max 1 p.mn).toNat by omega);rw[Nat.mul_succ]at this;omega
   refine⟨by simp only[InR];omega,by omega,by omega,λv=>⟨v,m++l.map (· + (k:Int) * (cq d).1),⟨by rw[qBJ,qBO,Nat.mul_succ,hm],λz=>?_⟩,rfl, .inl ⟨rfl,by simp⟩⟩⟩;rw[qBo,c z,qBr];constructor
   ·rintro(⟨a,b,i,h0,h1,h2⟩|⟨a,b,h2⟩)
    ·exact⟨a,b,i,h0,by omega,h2⟩
    ·exact⟨a,b,k,by omega,by omega,h2.symm⟩
   ·rintro⟨a,b,i,h0,h1,h2⟩;by_cases e:i<k
    ·exact .inl ⟨a,b,i,h0,e,h2⟩
    ·have:i=k:=by omega
     subst this;exact .inr ⟨a,b,h2.symm⟩
  ·rintro⟨v,m⟩ ⟨hm,c⟩;simp only at hm c;have y:m.length<=100000:=by
    have:l.length*p.mn.toNat<=l.length* (max 1 p.mn).toNat:=Nat.mul_le_mul_left _ (by omega);omega
   simp[h3,h4,y];clear h1 h2 h3 h4;intro r N A;refine⟨by omega,λv'=>br (ue r) (fM bP (by simp)) ⟨?_,λk hk z=>?_⟩⟩
   ·show(ue r).length<=l.length* (max 1 p.mn).toNat;have:=qhr r;have:l.length*p.mn.toNat<=l.length* (max 1 p.mn).toNat:=Nat.mul_le_mul_left _ (by omega);omega
   ·rw[j]at hk;cases hk;rw[qhq,A z,c z];refine exists_congr λa=>and_congr_right λ_=>exists_congr λi=>⟨λ⟨h0,h1,h2⟩=>⟨h0,by show i<p.mn;omega, .inr F,h2⟩,λ⟨h0,h1,_,h2⟩=>⟨h0,?_,h2⟩⟩
    have h1:i<p.mn:=h1;omega
def qjS(ks:List Pat):Nat:=(ks.flatMap am).length
def SQ:qjS []=0:=rfl
def M3(k:Pat)(ks:List Pat):qjS (k::ks)=(am k).length+qjS ks:=by simp[qjS]
def ZA{p:Pat}(h:p.op≠1):(am p).length=qjS p.kids:=by rw[aV,if_neg h];rfl
structure qk5 where
 leaf:Int
 v:Value
 out:List Span
def fndB:Pz qk5:=⟨[47],λx=>[.v (.int .i64 x.leaf), .own 47 x.v],λx=>[(47, .row x.v cF 2 (x.out.map enc))],λ_=>rfl⟩
@[simp] theorem quq(x:qk5):fndB.ce x=[.v (.int .i64 x.leaf), .own 47 x.v]:=i' rfl
@[simp] theorem qup(x:qk5):fndB.hp x=[(47, .row x.v cF 2 (x.out.map enc))]:=i' rfl
def Hv(n:Nat)(x:qk5)(z:Pat×List Int):Prop:=PPat n z.1/\0<=x.leaf/\x.leaf+eY z.1<=100000000/\x.out.length+z.2.length*uP z.1<=100000/\∀a∈z.2,0<=a/\a+200000*eY z.1<=1000000000000000
def Cm(x:qk5)(z:Pat×List Int)(b:qk5)(_:Unit):Prop:=b.leaf=x.leaf+ (am z.1).length/\b.out.length<=x.out.length+z.2.length*uP z.1/\∀s,s∈b.out↔s∈x.out\/ ∃a∈z.2,SrcE z.1 a x.leaf s
abbrev Ld(n:Nat):Spc:=qr3 fndB (a2 Pat (List Int)) Tw (Hv n) Cm
def HY{n:Nat}{p:Pat}{l:List Int}{leaf:Int}{v:Value}{out:List Span}{d b:Nat}{P L:D}{H:ab}{K:D->ab->Prop}(k:dec P=some p)(q:dec L=some l)
 (h0:H 0=some (.box b [.v (.int .i64 leaf), .own 47 v])) (j:H 47=some (.row v cF 2 (out.map enc))) (h:Hv n ⟨leaf,v,out⟩ (p,l))
 (r:∀a v' c,Cm ⟨leaf,v,out⟩ (p,l) ⟨a,v',c⟩ ()->K (.tup []) (ak (ak H 47 (some (.row v' cF 2 (c.map enc)))) 0 (some (.box b [.v (.int .i64 a), .own 47 v'])))):(Ld n).pt d [.bptr 0 b 0,P,L] H K:=by
 refine⟨0,b,⟨leaf,v,out⟩,(p,l), [P,L],rfl,?_,h0,?_,by simp[fndB],h,λs y t=>?_⟩;simp_all;simp_all;simp_all
def qkm{b:Nat}{leaf:Int}{v:Value}{out:List Span}{q:qk5->Unit->Prop}{H:ab}(h0:H 0=some (.box b [.v (.int .i64 leaf), .own 47 v]))(a:H 47=some (.row v cF 2 (out.map enc)))(c:q ⟨leaf,v,out⟩ ()):QU fndB Tw b q (.tup []) H:=
 ⟨⟨leaf,v,out⟩,(), .same _,h0,λp hp=>by simp_all,c⟩
theorem HR(n:Nat)(h1:S lQ=Lg)(h2:S gJ=kE)(h3:S kM=pq)(h4:S bw=Ld n):qae bp bi S fndB (a2 Pat (List Int)) Tw (Hv (n+1)) Cm:=by
 rintro b ⟨leaf,v,out⟩ ⟨p,l⟩ ⟨hp,J,K,hlen,ha⟩;simp only at hp J K hlen ha;have hk:∀k∈p.kids,PPat n k:=λk=>hp.kid
 have hs:∀k∈p.kids,lW (cq k):=λk h=>Q3 (v:=aB) k (hk k h).2
 have hn:=(gE hp.2).2.2;unfold nE at hn;rw[decide_eq_true_eq]at hn;have N:p.op≠1/\p.op≠4/\p.op≠6-> ↑p.kids.length<=(9223372036854775807:Int)->vc S bp (uL bi λr H'=>QU fndB Tw b (Cm ⟨leaf,v,out⟩ (p,l)) r H') (dr (.bptr 0 b 0::(a2 Pat (List Int)).view (p,l))) (ak (gk (fndB.hp ⟨leaf,v,out⟩) cX) 0 (some (.box b (fndB.ce ⟨leaf,v,out⟩)))):=by
  intro e w;simp[bp,bi,e];intro _;rw[eP]at K;have hcnt:out.length<=100000:=by omega
  refine ah (X:=qk5) [0,17] [] p.kids.length (λk x=>0<=x.leaf/\x.leaf+bQ (p.kids.drop k)<=100000000/\x.out.length<=out.length/\x.leaf+qjS (p.kids.drop k)=leaf+qjS p.kids/\∀s,s∈x.out↔s∈out) (λx=>[]) (λx=>[(0, .box b [.v (.int .i64 x.leaf), .own 47 x.v]),(47, .row x.v cF 2 (x.out.map enc))]) ⟨leaf,v,out⟩ ⟨J,by grind,qBj _,by simp,by simp⟩ ?_ ?_
  ·rintro k ⟨d,v',q⟩ w ⟨b0,b1,b2,C,F⟩;simp only at b0 b1 b2 C F;obtain⟨x,A⟩:=aY w;have L:=aP A;obtain⟨_,I⟩:=qBc.1 A;rw[cT A,bQ]at b1;rw[cT A,M3]at C;have U:=hk x L;simp[w,A,I];intro b1';rw[h4];refine HY (p:=x) (l:=[]) (leaf:=d) (v:=v') (out:=q) ?_ ?_ ?_ ?_ ⟨U,b0,by show d+ (eY x:Int)<=_;omega,by simp;omega,by simp⟩ ?_
   ·simp
   ·simp
   ·simp
   ·simp
   rintro c W j ⟨c1,c2,c3⟩;simp only at c1 c2 c3;have q4:=jP x;simp;refine⟨⟨c,W,j⟩,⟨by show 0<=c;omega,by show c+_<=_;omega,?_,by show c+_=_;omega,λs=>?_⟩, .inl ⟨rfl,rfl⟩, .inl ⟨rfl,rfl⟩⟩
   ·show j.length<=out.length;simp at c2;omega
   ·show s∈j↔s∈out;rw[c3 s,F s];simp
  ·rintro⟨d,v',q⟩ ⟨b0,b1,b2,C,F⟩;simp only at b0 b1 b2 C F;simp;refine qkm (leaf:=d) (v:=v') (out:=q) (by simp) (by simp) ⟨?_,?_,λs=>?_⟩
   ·rw[qB3]at C;rw[SQ]at C;show d=leaf+ ((am p).length:Int);rw[ZA e.1];omega
   ·show q.length<=out.length+_;omega
   ·rw[F s];exact⟨.inl,λh=>h.elim id λ⟨a,_,h⟩=>absurd h (qwa e _ _ _)⟩
 have w: ↑p.kids.length<=(9223372036854775807:Int):=by
  have:∀ks:List Pat,ks.length<=bQ ks:=by
   intro ks
   induction ks with
   |nil=>simp
   | cons k ks ih=>
     rw[bQ,qB2];have:1<=eY k:=by rw[eP];omega
     omega
  have:=this p.kids;rw[eP]at K;omega
 rcases B7 (gE hp.2).1 with⟨ho,t⟩|⟨ho,t⟩|⟨ho,E,ks,t⟩|⟨ho,E,t⟩
 ·rw[vn,if_pos t,Nat.mul_one]at hlen;simp[bp,bi,ho];intro _;refine ah (X:=Value×List Span) [0,29] [] l.length (λk x=>x.2=out++ (l.take k).map λa=>⟨leaf,a⟩) (λx=>[]) (λx=>[(0, .box b [.v (.int .i64 leaf), .own 47 x.1]),(47, .row x.1 cF 2 (x.2.map enc))]) (v,out) (by simp) ?_ ?_
  ·rintro k ⟨v,m⟩ w hm;simp only at hm;obtain⟨x,A⟩:=aY w;obtain⟨_,I⟩:=qBc.1 A;have hml:m.length=out.length+k:=by rw[hm];simp;omega
   simp[w,A,I];refine⟨by omega,by omega,λv=> .inl (.inl ?_)⟩;rw[qB8,hm];simp[A]
  ·rintro⟨v',m⟩ hm;simp only at hm;rw[qBm]at hm;simp;have:1<=eY p:=by rw[eP];omega
   refine⟨by simp only[InR];omega,qkm (leaf:=leaf+1) (v:=v') (out:=m) (by simp) (by simp) ⟨?_,?_,λs=>?_⟩⟩
   ·rw[aV,if_pos ho];rfl
   ·show m.length<=out.length+l.length*uP p;rw[hm,vn,if_pos t];simp
   ·show s∈m↔s∈out\/ ∃a∈l,SrcE p a leaf s;rw[hm,qBo,qBr];refine or_congr_right (exists_congr λa=>and_congr_right λ_=>?_);rw[qv9 ho];exact eq_comm
 grind
 ·by_cases Z:p.op=4
  ·rw[eP]at K;have ha':∀a∈l,0<=a/\a+200000*bQ p.kids<=1000000000000000:=λa h=>by have:=ha a h;rw[eP]at this;omega
   rw[vn,if_neg (by rw[t];simp),if_neg (by omega)]at hlen;simp[bp,bi,Z];intro _;refine UT (X:=qk5×List Int) [0,61] [] p.kids.length (λk x=>(0<=x.1.leaf/\x.1.leaf+bQ (p.kids.drop k)<=100000000)/\x.1.out.length+x.2.length*sH (p.kids.drop k)<=out.length+l.length*sH p.kids/\(∀a∈x.2,0<=a/\a+200000*bQ (p.kids.drop k)<=1000000000000000)/\x.1.leaf+qjS (p.kids.drop k)=leaf+qjS p.kids/\∀s,(s∈x.1.out\/ ∃a∈x.2,EN (p.kids.drop k) a x.1.leaf s) ↔ (s∈out\/ ∃a∈l,EN p.kids a leaf s))
    (λx=>[(2,enc x.2)]) (λx=>[(0, .box b [.v (.int .i64 x.1.leaf), .own 47 x.1.v]),(47, .row x.1.v cF 2 (x.1.out.map enc))]) (⟨leaf,v,out⟩,l) (by simp) (by simp) (by omega) (by simp) (by simp) ⟨⟨J,by simp;omega⟩,by simp,by simpa using ha',by simp,by simp⟩ (by simp) (by simp) ?_ ?_
   ·rintro k ⟨⟨d,v',q⟩,O⟩ w ⟨⟨b0,b1⟩,b2,C,F,Y⟩;simp only at b0 b1 b2 C F Y;obtain⟨x,A⟩:=aY w;have L:=aP A;obtain⟨_,I⟩:=qBc.1 A;rw[cT A,bQ]at b1 C;rw[cT A,sH,Nat.mul_add]at b2;rw[cT A,M3]at F;have U:=hk x L;have Q:=hs x L;simp[w,A,I];intro b1';rw[h4];refine HY (p:=x) (l:=O) (leaf:=d) (v:=v') (out:=q) ?_ ?_ ?_ ?_ ⟨U,b0,by show d+ (eY x:Int)<=_;omega,by show q.length+O.length*uP x<=_;omega,λa h=>by have:=C a h;show 0<=a/\a+200000* (eY x:Int)<=_;omega⟩ ?_
    ·simp
    ·simp
    ·simp
    ·simp
    rintro c W j ⟨c1,c2,c3⟩;simp only at c1 c2 c3;have q4:=jP x;simp[h1,h2,U.2,lH];unfold lW at Q;have hlx:O.length<=100000:=by
     have:=Nat.mul_le_mul_left O.length (XI x);omega
    have hb:∀s,(s∈j\/ ∃a∈O,(cq x).1=(cq x).2/\EN (p.kids.drop (k+1)) (a+ (cq x).1) c s) ↔ (s∈out\/ ∃a∈l,EN p.kids a leaf s):=by
     intro s;rw[<-Y s,c3 s,cT A,or_assoc,c1];refine or_congr_right ⟨?_,?_⟩
     ·rintro(⟨a,u,h⟩|⟨a,u,h⟩)
      ·exact⟨a,u,by rw[EN];exact .inl h⟩
      ·exact⟨a,u,by rw[EN];exact .inr h⟩
     ·rintro⟨a,u,h⟩;rw[EN]at h;rcases h with h|h
      ·exact .inl ⟨a,u,h⟩
      ·exact .inr ⟨a,u,h⟩
    refine⟨λhne=>⟨⟨by simp,Q.1,by show(cq x).1<=_;omega,by simp⟩,⟨c,W,j⟩, [],⟨⟨by show 0<=c;omega,by show c+_<=_;omega⟩,?_,by simp,by show c+_=_;omega,λs=>?_⟩,rfl, .inl ⟨rfl,rfl⟩, .inl ⟨rfl,rfl⟩⟩,λhe=>⟨⟨hlx,Q.1,by show(cq x).1<=_;omega,λa h=>by have:=C a h;omega⟩,⟨c,W,j⟩,O.map (· + (cq x).1),⟨⟨by show 0<=c;omega,by show c+_<=_;omega⟩,?_,λa h=>?_,by show c+_=_;omega,λs=>?_⟩,rfl, .inl ⟨rfl,rfl⟩, .inl ⟨rfl,rfl⟩⟩⟩
    ·simp;show j.length<=_;omega
    ·rw[<-hb s];refine or_congr_right ⟨λ⟨a,h,_⟩=>by simp at h,λ⟨a,_,h,_⟩=>absurd h hne⟩
    ·rw[qBO];show j.length+_<=_;omega
    ·obtain⟨a0,h0,rfl⟩:=qBr.1 h;have:=C a0 h0;have h3:1<=eY x:=by rw[eP];omega
     show 0<=a0+ (cq x).1/\a0+ (cq x).1+_<=_;omega
    ·rw[<-hb s];refine or_congr_right ⟨?_,?_⟩
     ·rintro⟨a,h,h'⟩;obtain⟨a0,h0,rfl⟩:=qBr.1 h;exact⟨a0,h0,he,h'⟩
     ·rintro⟨a,h,_,h'⟩;exact⟨a+ (cq x).1,qBr.2 ⟨a,h,rfl⟩,h'⟩
   ·rintro⟨⟨d,v',q⟩,O⟩ ⟨⟨b0,b1⟩,b2,C,F,Y⟩;simp only at b0 b1 b2 C F Y;rw[qB3]at b2 F Y;rw[SQ]at F;rw[sH,Nat.mul_zero]at b2;simp;refine qkm (leaf:=d) (v:=v') (out:=q) (by simp) (by simp) ⟨?_,?_,λs=>?_⟩
    ·show d=leaf+ ((am p).length:Int);rw[ZA (by omega)];omega
    ·show q.length<=out.length+l.length*uP p;rw[vn,if_neg (by rw[t];simp),if_neg (by omega)];omega
    ·show s∈q↔s∈out\/ ∃a∈l,SrcE p a leaf s;have:(∃a∈l,SrcE p a leaf s) ↔ ∃a∈l,EN p.kids a leaf s:=exists_congr λa=>and_congr_right λ_=>qv8 Z _ _ _
     rw[this,<-Y s];exact⟨.inl,λh=>h.elim id λ⟨a,_,h⟩=>by rw[EN]at h;exact h.elim⟩
  ·exact N (by omega) w
 ·have U:=hk E (by rw[t];simp);have Q:=hs E (by rw[t];simp);have hn:=hn ho;have e6:(⟨6,p.cond,p.lab,p.reg,p.mn,p.mx,p.kids⟩:Pat)=p:=by rw[<-ho];exact qkr p
  have M:uP p=(max 1 p.mn).toNat*uP E:=by rw[vn,t,if_neg (by simp),if_pos ho,sH,sH,qCC]
  have hpn:eY p=eY E+1:=by rw[eP,t,bQ,bQ]
  have ht:T0 (p,l):=⟨ho,hp.2,by show l.length*uP p<=_;omega,λa h=>by have:=ha a h;omega⟩
  simp[bp,bi,ho,h3,e6,ht];refine⟨by rw[t];simp,λa haa=>?_⟩;rw[t]at haa;cases haa;rintro y ⟨c1,c2⟩;simp only at c1 c2;have c2:=c2 E t;rw[h4];refine HY (p:=E) (l:=y) (leaf:=leaf) (v:=v) (out:=out) ?_ ?_ ?_ ?_ ⟨U,J,by show leaf+ (eY E:Int)<=_;omega,?_,λz hz=>?_⟩ ?_
  ·simp
  ·simp
  ·simp
  ·simp
  ·show out.length+y.length*uP E<=100000;rw[M,<-Nat.mul_assoc]at hlen;have:=qBH (uP E) c1;omega
  ·obtain⟨a,u,i,h0,h1,h2,rfl⟩:=(c2 z).1 hz;have h1:i<p.mn:=h1;have:=ha a u;unfold lW at Q;have hm:=uZ h0 (show i<=16 by omega) Q.1 Q.2.1;show 0<=a+i* (cq E).1/\a+i* (cq E).1+200000* (eY E:Int)<=_;omega
  ·rintro c W j ⟨d1,d2,d3⟩;simp only at d1 d2 d3;refine qkm (leaf:=c) (v:=W) (out:=j) (by simp) (by simp) ⟨?_,?_,λs=>?_⟩
   ·show c=leaf+ ((am p).length:Int);rw[ZA (by omega),t,M3,SQ];omega
   ·show j.length<=out.length+l.length*uP p;rw[M,<-Nat.mul_assoc];have:=qBH (uP E) c1;omega
   ·show s∈j↔s∈out\/ ∃a∈l,SrcE p a leaf s;rw[d3 s];refine or_congr_right ⟨?_,?_⟩
    ·rintro⟨z,hz,M⟩;obtain⟨a,u,i,h0,h1,h2,rfl⟩:=(c2 z).1 hz;exact⟨a,u,(qpT ho t _ _ _).2 ⟨i,h0,h1,h2,M⟩⟩
    ·rintro⟨a,u,h⟩;obtain⟨i,h0,h1,h2,h3⟩:=(qpT ho t _ _ _).1 h;exact⟨_,(c2 _).2 ⟨a,u,i,h0,h1,h2,rfl⟩,h3⟩
end
section
open Cod (enc dec)
variable {S:Nat->Spc}
def zS(a b:Span):Int:=if TG a.b b.b≠0 then TG a.b b.b else TG a.e b.e
def qhw(a b:Span):0<=zS a b↔ ¬Qq a b:=by
 grind [zS,TG,Qq]
end
section
open Cod (enc dec)
variable {S S0:Nat->Spc}
abbrev DR:Spc:=aA (a2 Span Span) (λ_=>True) (enc (X:=Int)) λx y=>y=zS x.1 x.2
def Dz(h1:S oo=uV)(h2:S yV=F0):aq lB lc S (a2 Span Span) (λ_=>True) (enc (X:=Int)) λx y=>y=zS x.1 x.2:=by
 rintro⟨a,b⟩ -;simp[lB,lc,h1,h2,zS];by_cases h:TG a.b b.b=0
 ·by_cases c:TG a.e b.e=0
  ·simp[h,c]
  ·simp[h,c]
 ·simp[h]
def qb8(x:D×Unit)(l:List Span):Prop:=x.1= .clo eZ []/\l.length<=100000
abbrev s_SortFunc_Source:Spc:=qoZ (aD a0) qb8 qai cF 2
abbrev s_visitA:Spc:=qr3 fndB (a2 Pat (List Int)) Tw (λx z=>∃n,Hv n x z) Cm
theorem YL{n:Nat}{p:Pat}{l:List Int}{leaf:Int}{v:Value}{out:List Span}{id d b:Nat}{P L:D}{H:ab}{K:D->ab->Prop}(hid:id≠47)(s:dec P=some p)(t:dec L=some l)
 (h0:H id=some (.box b [.v (.int .i64 leaf), .own 47 v])) (k:H 47=some (.row v cF 2 (out.map enc))) (h:Hv n ⟨leaf,v,out⟩ (p,l))
 (u:∀a v' c,Cm ⟨leaf,v,out⟩ (p,l) ⟨a,v',c⟩ ()->K (.tup []) (ak (ak H 47 (some (.row v' cF 2 (c.map enc)))) id (some (.box b [.v (.int .i64 a), .own 47 v'])))):s_visitA.pt d [.bptr id b 0,P,L] H K:=by
 refine⟨id,b,⟨leaf,v,out⟩,(p,l), [P,L],rfl,?_,h0,?_,by simpa [fndB]using hid,⟨n,h⟩,λr y j=>?_⟩
 ·rw[qok,s,t];rfl
 ·intro q j;simp at j;subst j;exact k
 ·exact u r.leaf r.v r.out j
def L4:∀(ks:List Pat) (n:Int),(1<=n\/ks≠ []/\0<=n)->(∀k∈ks,1<=gw k)->1<=eM ks n
 | [],n,h,_=>by rw[eM];rcases h with h|h;exact h;exact absurd rfl h.1
 | k::ks,n,h,hk=>by
   rw[eM];have:=hk k (by simp);exact L4 ks _ (.inl (by rcases h with h|h<;>omega)) λx a=>hk x (by simp[a])
def qcD{v:B->Bool}(p:Pat):fk v p=true->1<=gw p:=by
 induction p using fh with|_ p a=>?_
 intro h;have hn:=(gE h).2.2;unfold nE at hn;rw[decide_eq_true_eq]at hn;rw[mV,AJ];by_cases h0:p.kids=[]
 ·rw[if_pos h0];omega
 ·rw[if_neg h0];have:=L4 p.kids 0 (.inr ⟨h0,qCi _⟩) λk hk=>a k hk (xp h hk)
  generalize eM p.kids 0=n at this;split
  ·rename_i h6;have hn:=hn h6;split
   ·have:=Int.mul_le_mul this (show(1:Int)<=p.mn+1 by omega) (by omega) (by omega);omega
   ·split
    ·exact this
    ·have:=Int.mul_le_mul this (show(1:Int)<=p.mx by omega) (by omega) (by omega);omega
  ·exact this
abbrev FQ:Spc:=Zc
abbrev xe:Spc:=aA (a1 Pat) Hw (enc (X:=List Span)) vv
theorem HU(h1:S sT=FQ)(h2:S bw=s_visitA)(h3:S gc=s_SortFunc_Source)(h4:S eA=xg):
 aq pa nz S (a1 Pat) Hw (enc (X:=List Span)) vv:=by
 rintro p ⟨q,t⟩;simp[pa,nz,h1,-fB'];have c:¬(fk aB p=true/\gw p<=256)->Fin enc (vv p) (D.v (Value.slice none 0 0)) λx=>none:=λh=>br [] (by simp) (by unfold vv;rw[if_neg h])
 rcases hb:fk aB p
 ·simp;exact c (by rw[hb];simp)
 have k:=qcD p hb;simp;refine⟨λ_=>⟨λh=>c (by omega),λd=>?_⟩,λh=>by omega⟩;have u:∀y,SrcsOf p y->vv p y:=λy w=>by unfold vv;rw[if_pos ⟨hb,d⟩];exact w
 clear c;refine kD (X:=Nat) [1] [] [] [] (λ_=>True) (λb=>[(4, .bptr 14 b 0)]) (λb=>[(14, .box b [.v (.int .i64 0), .own 47 (.slice none 0 0)]),(47, .row (.slice none 0 0) cF 2 [])]) [14,47] (λ_=>rfl) (by decide) ?_ ?_
 ·simp;refineλb=>⟨b, .same _, .inl ?_,by simp[isNilRow]⟩
  simp;exact .nilown 47
 ·rintro b -;simp[h2];refine YL (n:=dJ p) (p:=p) (l:=[0]) (leaf:=0) (v:= .slice none 0 0) (out:=[]) (by decide) ?_ ?_ ?_ ?_ ⟨⟨qBj _,hb⟩,qCi _,by show(0:Int) + (eY p:Int)<=_;omega,by simp;omega,λa h=>by simp at h;subst h;show 0<=(0:Int)/\(0:Int) +200000* (eY p:Int)<=_;omega⟩ ?_
  ·simp
  ·simp
  ·simp
  ·simp
  rintro leaf v out ⟨c1,c2,c3⟩;simp only at c1 c2 c3;simp at c2;simp[h3,h4];have A:qb8 (.clo eZ [],()) out:=⟨rfl,by omega⟩
  refine⟨A,λr j=>⟨by have:=j.1;omega,λv'=>br (uN r) (fM cF (by simp)) (u _ ⟨qkF j.2.2,λs=>?_⟩)⟩⟩;rw[XG,j.2.1 s,c3 s];simp
end
section
open Cod (enc dec)
open Go.Proofs Go.Sort Go.Shelf Go.Lib Go.RowKit
variable {dq:Prop}
section
variable {P:Program}{ρ:Ren}
theorem U0{C:Nat}(L:SlLaysN.n53 P ρ)(hf:ρ.f 53=C)(ef:eE P C):Tri dq P C s_Sort_int.pt:=by
 subst hf;have hev:∀x:Int,enc x=D.v (.int .i64 x):=λ_=>rfl
 intro O tp w vs ds H d K hO' htl p hlen E hA;obtain⟨id,v,l,ds',x,rfl,hd,hid,hl5,hK⟩:=hA;have hds:ds'=[]:=by
  match ds',hd with
  | [],h=>rfl
  |a::r,h=>cases h
 subst hds
 match vs,hlen,E with
 | [v0],_,E=>
 have e0:v0=v:=by
  have:=E 0 v0 _ rfl rfl;cases this;rfl
 subst e0;refine⟨ef,?_⟩;obtain⟨xs,⟨hxl,hx⟩,hkn,S⟩:=p.ok id _ hid;rcases hx with⟨rfl,h0⟩|⟨A,cap,cur,rfl,_,U,hcap,hcapm,hsz,J⟩
 ·have hl0:l=[]:=by grind
  subst hl0;refine(AnyG.slices_Sort_int_none L none 0 w).mono ?_;rintro e w' ⟨rfl,rfl⟩;have hH:ak H id (some (.row (.slice none 0 0) bP 1 (([]:List Int).map enc)))=H:=by
   grind [ak]
  refine⟨_,_,_,tp,rfl,hK [] (by simp),λb h=>h,λb h=> .inl h,htl.1, .refl _ _ _,λb h=> .inl (by grind),by grind, .tup [] [] rfl (λk x c h=>by simp)⟩
 ·have hll:(l.map (enc (X:=Int))).length=l.length:=by simp
  rw[hll]at hcap hxl J ⊢;have hval:∀(j:Nat) (y v':Value),xs[j]? =some y->(bk (l.map enc))[j]? =some (.v v')->y=v':=λj y v' h1 h2=>((S j y _ h1 h2).2).inv_v
  have Z:∀l:List Int,bk (l.map enc)=(l.map (Value.int .i64)).map D.v:=λl=>by
   unfold bk;rw[List.flatMap_map,List.map_map]
   induction l with
   |nil=>rfl
   |cons a l ih=>rw[qCg,qBZ,ih];rfl
  have hxs:xs=l.map (Value.int .i64):=by
   apply qBX;intro j;by_cases hj:j<l.length
   ·have e1:xs[j]? =some xs[j]:=qBe (by omega);have e2:(l.map (Value.int .i64))[j]? =some (.int .i64 l[j]):=by simp[hj]
    rw[e1,e2];congr 1;refine hval j _ _ e1 ?_;rw[Z,qBw,e2];rfl
   ·rw[qBE (by omega),qBE (by simp;omega)]
  have hcur:∀j,j<l.length->cur[j]? =(l.map (Value.int .i64))[j]?:=λj hj=>by
   rw[<-hxs,<-J,qBv,if_pos (by omega),qBD]
  have hgs:A<w.heap.size:=(qBn.1 U).1;have hH:Holds (Value.int .i64) w A 0 l.toArray:=by
   intro j hj;have hj':j<l.length:=by simpa using hj
   refine⟨?_,GN U⟩;rw[NJ U,qBV,hcur j hj',getElem!_pos _ j hj];simp[hj']
  have M:=AnyG.slices_Sort_int L A 0 cap l w hH hgs (by omega);refine M.mono ?_;rintro e w' ⟨rfl,n,os,I⟩;have hmem:∀x,x∈l.mergeSort (λx y=>decide (x<=y)) ↔x∈l:=λx=>List.mem_mergeSort
  have q:(l.mergeSort λx y=>decide (x<=y)).length=l.length:=by simp
  generalize hl':(l.mergeSort λx y=>decide (x<=y))=l' at I hmem q;have W:∀b,b<w.heap.size->b≠A->w'.heap[b]? =w.heap[b]?:=λb hb hne=>by
   rw[I];exact Qb (w:=Sort.ahead w n) hb hne
  have hthis:w'.heap[A]? =some (.cells (putCells (Value.int .i64) 0 l'.toArray cur) bP (0,0)):=by
   rw[I];exact We (w:=Sort.ahead w n) U
  have hws:w.heap.size<=w'.heap.size:=by
   rw[I];simp[grow,putRow,mapBlock,Sort.ahead]
  have Y:w'.os=w.os/\w'.tape=w.tape/\w'.output=w.output/\w.drawn<=w'.drawn:=by
   rw[I];exact⟨rfl,rfl,rfl,Nat.le_add_right _ _⟩
  clear I M;have hbo:(Res.row (.slice (some ⟨A,0,none⟩) l.length cap) bP 1 (l.map (enc (X:=Int)))).blk=some A:=rfl;have t:H id=some (.row (.slice (some ⟨A,0,none⟩) l.length cap) bP 1 (l.map enc)):=by rw[hid,hll]
  have N:bA H A:=⟨id,_,t,hbo⟩
  have htp:∀b,tp b->b≠A:=λb hb e=>(p.out id _ A t hbo).2 (e ▸hb)
  have F:∀b,tp b->TapeStep w w' b:=λb hb=> .same (W b (htl.1 b hb) (htp b hb))
  have hK':=hK l' ⟨q,hmem⟩;rw[hll]at hK';generalize hH2:ak H id (some (.row (.slice (some ⟨A,0,none⟩) l.length cap) bP 1 (l'.map enc)))=H2 at hK';have Q:∀b,bA H2 b->bA H b:=λb ⟨i,r,h1,h2⟩=>by
   rw[<-hH2]at h1;simp only[ak]at h1;split at h1
   ·cases h1;cases h2;exact N
   ·exact⟨i,r,h1,h2⟩
  have hmove:∀y c,R tp (aW O tp H w) w y c->R tp (aW O tp H2 w') w' y c:=λy c hr=>hr.mono (λ_ h=>h) (λb hb=>⟨⟨qBu hb.1 hws,hb.2.1,hb.2.2.1,λh=>hb.2.2.2 (Q b h)⟩,W b hb.1 (λe=>hb.2.2.2 (e ▸N))⟩) F
  have u:∀i r,H2 i=some r->(i=id/\r= .row (.slice (some ⟨A,0,none⟩) l.length cap) bP 1 (l'.map enc))\/(i≠id/\H i=some r):=λi r h=>by
   rw[<-hH2]at h;simp only[ak]at h;split at h
   ·rename_i e;cases h;exact .inl ⟨e,rfl⟩
   ·rename_i e;exact .inr ⟨e,h⟩
  refine⟨_,_,H2,tp,rfl,hK',λb h=>h,λb h=> .inl h,λb hb=>qBu (htl.1 b hb) hws,⟨Y.1,Y.2.1,Y.2.2.1,hws,λb hb ho ht=>W b hb (λe=>ho (e ▸N)),F,λ_=>Y.2.2.2⟩,λb h=> .inl (Q b h),⟨?_,?_,?_⟩, .tup [] [] rfl (λk x c h=>by simp at h)⟩
  ·intro i j r s b h1 h2 h3 h4;rcases u i r h1 with⟨rfl,rfl⟩|⟨n1,k1⟩
   ·rcases u j s h2 with⟨rfl,rfl⟩|⟨n2,k2⟩
    ·rfl
    ·exact p.dis _ j _ s b t k2 h3 h4
   ·rcases u j s h2 with⟨rfl,rfl⟩|⟨n2,k2⟩
    ·exact p.dis i _ r _ b k1 t h3 h4
    ·exact p.dis i j r s b k1 k2 h3 h4
  ·intro i r b h1 h2;rcases u i r h1 with⟨rfl,rfl⟩|⟨n1,k1⟩
   ·exact p.out _ _ b t h2
   ·exact p.out i r b k1 h2
  ·intro i r h1;rcases u i r h1 with⟨rfl,rfl⟩|⟨n1,k1⟩
   ·have hps:(putCells (Value.int .i64) 0 l'.toArray cur).size=cur.size:=by simp[putCells]
    refine⟨l'.map (Value.int .i64),⟨by simp, .inr ⟨A,cap,_,by simp[q],qBB _,hthis,by simp;omega,hcapm,by rw[hps,hsz],?_⟩⟩,λd hd=>?_,λj y c h1 h2=>?_⟩
    ·simp only[qBO,q];apply qBX;intro j;rw[qBv];by_cases hj:j<l.length
     ·have hjc:j<cur.size:=by omega
      have hjf:j<l'.toArray.size:=by simp[q];exact hj
      have hjl:j<l'.length:=by omega
      rw[if_pos (by omega),qBD];simp only[putCells,Array.getElem?_mapIdx,qB4 hjc,qCN,qBB,qBV,hjf,and_self,if_true,Nat.sub_zero];rw[getElem!_pos _ j hjf];simp[hjl]
     ·rw[if_neg (by omega),qBE (by simp;omega)]
    ·obtain⟨z,_,rfl⟩:=qBr.1 hd;exact⟨Cod.kn z,Cod.wid z⟩
    ·rw[Z,qBw,h1]at h2;cases h2;obtain⟨z,_,rfl⟩:=qBr.1 (qBf h1);exact⟨rfl, .v _ rfl (λs h=>by cases h)⟩
   ·have hne:∀b,r.blk=some b->b≠A:=λb hb e=>n1 (p.dis i id r _ A k1 t (e ▸hb) hbo)
    exact(p.ok i r k1).conv hmove (λb hb=>W b ((p.ok i r k1).lt hb) (hne b hb))
end
end
end Go.Gv
namespace Go.Proofs
open Go.Shelf
def Tryz.sortSource_ren:Go.Shelf.Ren:=⟨λ|6=>100|15=>168|14=>167|28=>232|29=>233|20=>224|21=>225|22=>226|23=>227|24=>228|25=>229|26=>230|27=>231|46=>285|47=>286|48=>287|49=>288|50=>289|57=>312|n=>n,λ|22=>55|24=>84|25=>99|3=>3|39=>159|0=>0|53=>243|55=>245|4=>4|46=>237|45=>236|50=>86|5=>5|9=>9|66=>277|70=>281|76=>306|77=>163|n=>n,λ|n=>n⟩
theorem Tryz.sortSource:Go.Proofs.SlLaysF0.n6 Tryz.prog Tryz.sortSource_ren:={
 mixed:=by kernel_rfl
 f6:=⟨Tryz.f100.name,by decide,Tryz.func100.trans (congrArg some (by kernel_rfl))⟩
 f14:=⟨Tryz.f167.name,by decide,Tryz.func167.trans (congrArg some (by kernel_rfl))⟩
 f15:=Tryz.func168.trans (congrArg some (by kernel_rfl))
 f20:=⟨Tryz.f224.name,by decide,Tryz.func224.trans (congrArg some (by kernel_rfl))⟩
 f21:=⟨Tryz.f225.name,by decide,Tryz.func225.trans (congrArg some (by kernel_rfl))⟩
 f22:=⟨Tryz.f226.name,by decide,Tryz.func226.trans (congrArg some (by kernel_rfl))⟩
 f23:=⟨Tryz.f227.name,by decide,Tryz.func227.trans (congrArg some (by kernel_rfl))⟩
 f24:=⟨Tryz.f228.name,by decide,Tryz.func228.trans (congrArg some (by kernel_rfl))⟩
 f25:=⟨Tryz.f229.name,by decide,Tryz.func229.trans (congrArg some (by kernel_rfl))⟩
 f26:=⟨Tryz.f230.name,by decide,Tryz.func230.trans (congrArg some (by kernel_rfl))⟩
 f27:=⟨Tryz.f231.name,by decide,Tryz.func231.trans (congrArg some (by kernel_rfl))⟩
 f28:=Tryz.func232.trans (congrArg some (by kernel_rfl))
 f29:=Tryz.func233.trans (congrArg some (by kernel_rfl))
 f46:=⟨Tryz.f285.name,by decide,Tryz.func285.trans (congrArg some (by kernel_rfl))⟩
 f47:=Tryz.func286.trans (congrArg some (by kernel_rfl))
 f48:=Tryz.func287.trans (congrArg some (by kernel_rfl))
 f49:=⟨Tryz.f288.name,by decide,Tryz.func288.trans (congrArg some (by kernel_rfl))⟩
 f50:=⟨Tryz.f289.name,by decide,Tryz.func289.trans (congrArg some (by kernel_rfl))⟩
 f57:=⟨Tryz.f312.name,by decide,Tryz.func312.trans (congrArg some (by kernel_rfl))⟩
 t0:=Tryz.underlying0
 a0:=Tryz.isAgg0
 z0:=Tryz.sizeOf0
 v0:=Tryz.zeroValue0
 t3:=Tryz.underlying3
 a3:=Tryz.isAgg3
 z3:=Tryz.sizeOf3
 v3:=Tryz.zeroValue3
 t4:=Tryz.underlying4
 a4:=Tryz.isAgg4
 z4:=Tryz.sizeOf4
 v4:=Tryz.zeroValue4
 t5:=Tryz.underlying5
 a5:=Tryz.isAgg5
 z5:=Tryz.sizeOf5
 v5:=Tryz.zeroValue5
 t9:=Tryz.underlying9
 a9:=Tryz.isAgg9
 z9:=Tryz.sizeOf9
 v9:=Tryz.zeroValue9
 t22:=Tryz.underlying55
 a22:=Tryz.isAgg55
 z22:=Tryz.sizeOf55
 v22:=Tryz.zeroValue55
 t25:=Tryz.underlying99
 a25:=Tryz.isAgg99
 z25:=Tryz.sizeOf99
 v25:=Tryz.zeroValue99
 t39:=Tryz.underlying159
 a39:=Tryz.isAgg159
 z39:=Tryz.sizeOf159
 v39:=Tryz.zeroValue159
 t45:=Tryz.underlying236
 a45:=Tryz.isAgg236
 z45:=Tryz.sizeOf236
 v45:=Tryz.zeroValue236
 t46:=Tryz.underlying237
 a46:=Tryz.isAgg237
 z46:=Tryz.sizeOf237
 v46:=Tryz.zeroValue237
 t50:=Tryz.underlying86
 a50:=Tryz.isAgg86
 z50:=Tryz.sizeOf86
 v50:=Tryz.zeroValue86
 t53:=Tryz.underlying243
 a53:=Tryz.isAgg243
 z53:=Tryz.sizeOf243
 v53:=Tryz.zeroValue243
 t55:=Tryz.underlying245
 a55:=Tryz.isAgg245
 z55:=Tryz.sizeOf245
 v55:=Tryz.zeroValue245
 t66:=Tryz.underlying277
 a66:=Tryz.isAgg277
 z66:=Tryz.sizeOf277
 v66:=Tryz.zeroValue277
 t70:=Tryz.underlying281
 a70:=Tryz.isAgg281
 z70:=Tryz.sizeOf281
 v70:=Tryz.zeroValue281
 t76:=Tryz.underlying306
 a76:=Tryz.isAgg306
 z76:=Tryz.sizeOf306
 v76:=Tryz.zeroValue306
 t77:=Tryz.underlying163
 a77:=Tryz.isAgg163
 z77:=Tryz.sizeOf163
 v77:=Tryz.zeroValue163 }
def Tryz.sortInt_ren:Go.Shelf.Ren:=⟨λ|53=>108|64=>168|63=>173|78=>232|79=>233|70=>235|71=>236|72=>237|73=>238|74=>239|75=>240|59=>105|76=>241|77=>242|88=>290|89=>286|90=>287|91=>291|92=>292|68=>171|96=>313|n=>n,λ|22=>22|23=>3|3=>3|51=>159|0=>0|67=>243|69=>245|4=>4|61=>237|60=>236|44=>86|5=>5|9=>9|75=>277|79=>281|83=>306|84=>163|n=>n,λ|n=>n⟩
theorem Tryz.sortInt:Go.Proofs.SlLaysN.n53 Tryz.prog Tryz.sortInt_ren:={
 mixed:=by kernel_rfl
 f53:=⟨Tryz.f108.name,by decide,Tryz.func108.trans (congrArg some (by kernel_rfl))⟩
 f59:=⟨Tryz.f105.name,by decide,Tryz.func105.trans (congrArg some (by kernel_rfl))⟩
 f63:=⟨Tryz.f173.name,by decide,Tryz.func173.trans (congrArg some (by kernel_rfl))⟩
 f64:=Tryz.func168.trans (congrArg some (by kernel_rfl))
 f68:=⟨Tryz.f171.name,by decide,Tryz.func171.trans (congrArg some (by kernel_rfl))⟩
 f70:=⟨Tryz.f235.name,by decide,Tryz.func235.trans (congrArg some (by kernel_rfl))⟩
 f71:=⟨Tryz.f236.name,by decide,Tryz.func236.trans (congrArg some (by kernel_rfl))⟩
 f72:=⟨Tryz.f237.name,by decide,Tryz.func237.trans (congrArg some (by kernel_rfl))⟩
 f73:=⟨Tryz.f238.name,by decide,Tryz.func238.trans (congrArg some (by kernel_rfl))⟩
 f74:=⟨Tryz.f239.name,by decide,Tryz.func239.trans (congrArg some (by kernel_rfl))⟩
 f75:=⟨Tryz.f240.name,by decide,Tryz.func240.trans (congrArg some (by kernel_rfl))⟩
 f76:=⟨Tryz.f241.name,by decide,Tryz.func241.trans (congrArg some (by kernel_rfl))⟩
 f77:=⟨Tryz.f242.name,by decide,Tryz.func242.trans (congrArg some (by kernel_rfl))⟩
 f78:=Tryz.func232.trans (congrArg some (by kernel_rfl))
 f79:=Tryz.func233.trans (congrArg some (by kernel_rfl))
 f88:=⟨Tryz.f290.name,by decide,Tryz.func290.trans (congrArg some (by kernel_rfl))⟩
 f89:=Tryz.func286.trans (congrArg some (by kernel_rfl))
 f90:=Tryz.func287.trans (congrArg some (by kernel_rfl))
 f91:=⟨Tryz.f291.name,by decide,Tryz.func291.trans (congrArg some (by kernel_rfl))⟩
 f92:=⟨Tryz.f292.name,by decide,Tryz.func292.trans (congrArg some (by kernel_rfl))⟩
 f96:=⟨Tryz.f313.name,by decide,Tryz.func313.trans (congrArg some (by kernel_rfl))⟩
 t0:=Tryz.underlying0
 a0:=Tryz.isAgg0
 z0:=Tryz.sizeOf0
 v0:=Tryz.zeroValue0
 t3:=Tryz.underlying3
 a3:=Tryz.isAgg3
 z3:=Tryz.sizeOf3
 v3:=Tryz.zeroValue3
 t4:=Tryz.underlying4
 a4:=Tryz.isAgg4
 z4:=Tryz.sizeOf4
 v4:=Tryz.zeroValue4
 t5:=Tryz.underlying5
 a5:=Tryz.isAgg5
 z5:=Tryz.sizeOf5
 v5:=Tryz.zeroValue5
 t9:=Tryz.underlying9
 a9:=Tryz.isAgg9
 z9:=Tryz.sizeOf9
 v9:=Tryz.zeroValue9
 t22:=Tryz.underlying22
 a22:=Tryz.isAgg22
 z22:=Tryz.sizeOf22
 v22:=Tryz.zeroValue22
 t23:=Tryz.underlying3
 a23:=Tryz.isAgg3
 z23:=Tryz.sizeOf3
 v23:=Tryz.zeroValue3
 t44:=Tryz.underlying86
 a44:=Tryz.isAgg86
 z44:=Tryz.sizeOf86
 v44:=Tryz.zeroValue86
 t51:=Tryz.underlying159
 a51:=Tryz.isAgg159
 z51:=Tryz.sizeOf159
 v51:=Tryz.zeroValue159
 t60:=Tryz.underlying236
 a60:=Tryz.isAgg236
 z60:=Tryz.sizeOf236
 v60:=Tryz.zeroValue236
 t61:=Tryz.underlying237
 a61:=Tryz.isAgg237
 z61:=Tryz.sizeOf237
 v61:=Tryz.zeroValue237
 t67:=Tryz.underlying243
 a67:=Tryz.isAgg243
 z67:=Tryz.sizeOf243
 v67:=Tryz.zeroValue243
 t69:=Tryz.underlying245
 a69:=Tryz.isAgg245
 z69:=Tryz.sizeOf245
 v69:=Tryz.zeroValue245
 t75:=Tryz.underlying277
 a75:=Tryz.isAgg277
 z75:=Tryz.sizeOf277
 v75:=Tryz.zeroValue277
 t79:=Tryz.underlying281
 a79:=Tryz.isAgg281
 z79:=Tryz.sizeOf281
 v79:=Tryz.zeroValue281
 t83:=Tryz.underlying306
 a83:=Tryz.isAgg306
 z83:=Tryz.sizeOf306
 v83:=Tryz.zeroValue306
 t84:=Tryz.underlying163
 a84:=Tryz.isAgg163
 z84:=Tryz.sizeOf163
 v84:=Tryz.zeroValue163 }
end Go.Proofs
namespace Go.Gv
section
open Go.Proofs
def mD:CC:=gq Tryz.f9 [2,3] {} _
def mi:List ai:=[.tmp 4, .tmp 5]
def D5:FO oa [2,3] mD mi 43:=fo
def pb:CC:=gq Tryz.f13 [2,3] {} _
def nA:List ai:=[.tmp 4, .tmp 5]
def Gm:FO kN [2,3] pb nA 17:=fo
open Cod (enc dec)
variable {S S0:Nat->Spc}
end
section
variable {dq:Prop}
open Cod (enc dec)
open Go.Proofs Go.Shelf Go.RowKit Go.Maps Go.Sort
section
variable {P:Program}{ρ:Ren}
end
end
section
open Cod (enc dec)
variable {S S0:Nat->Spc}
structure qcc (V:List Attr->Qry->Prop) (c:Corpus) (q:Qry):Prop where
 v:V c.attrs q
 pat:fk aB q.pat=true
 size:gw q.pat<=256
 fx:Hw q.pat
 pl:qd4 q.pat []
 few:c.toks.length<=100000
 sel:∀x∈am q.pat,JZ (c,x.cond)
end
section
open Go.Proofs
def ss:CC:=gq Tryz.f33 [1] { bx:=[7] } _
def rN:List ai:=[.tmp 2]
def KG:FO tX [1] ss rN 8:=fo
open Cod (enc dec)
variable {S S0:Nat->Spc}
def Kh(h1:S lO=fC)(h2:S ee=s_leavesQ):aq ss rN S (a1 Pat) (λx=>qd4 x []) (enc (X:=List Pat)) λx y=>y=if fk aB x then bN x else[]:=by
 rintro p hp;have hp:qd4 p []:=hp;simp[ss,rN,h1,h2,hp,-fB',-eB'];clear h1 h2;exact⟨λh=>br [] (by simp) (by rw[h];rfl),λh=> .inl λv=>br (bN p) (fM bB (by simp)) (by rw[h];rfl)⟩
abbrev Me:Spc:=aA (a2 Corpus Cond) JZ (lH (Y:=Int) (Z:=Int)) λz y=>y=(((FL z.1 z.2).length:Int),0)
def HV(h1:S mu=qls):aq pb nA S (a2 Corpus Cond) JZ (lH (Y:=Int) (Z:=Int)) λz y=>y=(((FL z.1 z.2).length:Int),0):=by
 rintro⟨c,x⟩ a;simp[pb,nA,h1,a,-fB',-eB']
def jA(c:Corpus)(q:Qry):List Int:=(am q.pat).map λx=>((FL c x.cond).length:Int)
abbrev P2(V:List Attr->Qry->Prop):Spc:=aA (a2 Corpus Qry) (λz=>qcc V z.1 z.2) (lH (Y:=List Int) (Z:=Int)) λz y=>y=(jA z.1 z.2,0)
theorem Fe{V:List Attr->Qry->Prop}(h1:S pX=qaO V)(h2:S tX=AL)(h3:S kN=Me):aq mD mi S (a2 Corpus Qry) (λz=>qcc V z.1 z.2) (lH (Y:=List Int) (Z:=Int)) λz y=>y=(jA z.1 z.2,0):=by
 rintro⟨c,q⟩ d;have d:qcc V c q:=d;have r:V c.attrs q:=d.v;have hlen:(bN q.pat).length=(am q.pat).length:=by unfold bN;simp
 have s:(am q.pat).length<=100000000:=by have:=d.pl.1;simpa using this
 simp[mD,mi,h1,h2,r,d.pat,d.pl,-fB',-eB'];intro t;refine ah (X:=Value×List Int) [2,21] [] (bN q.pat).length (λk z=>z.2=(jA c q).take k) (λz=>[(7, .own 40 z.1)]) (λz=>[(40, .row z.1 bP 1 (z.2.map enc))]) (.slice none 0 0, []) (by simp) ?_ ?_ (hh:=by simp[isNilRow])
 ·rintro k ⟨v,z⟩ hk hz;have hz:z=(jA c q).take k:=hz;obtain⟨a,l⟩:=bD (show k<(am q.pat).length by omega);have p:(bN q.pat)[k]? =some (ug a):=by unfold bN;rw[qBw,l];rfl
  obtain⟨u,h⟩:=qBc.1 p;have b:JZ (c,(ug a).cond):=d.sel a (qBf l);have j:(jA c q)[k]? =some (((FL c (ug a).cond).length:Int)):=by unfold jA;rw[qBw,l];rfl
  have w:z.length=k:=by rw[hz,qBC];unfold jA;rw[qBO];omega
  generalize x:ug a=A at p h b j;simp[hk,p,h,h3,b,-fB',-eB'];refine⟨by omega,by omega,λv'=> .inl ?_⟩;rw[hz,<-List.map_take,au j];simp
 ·rintro⟨v,z⟩ hz;have hz:z=(jA c q).take (bN q.pat).length:=hz;have:z=jA c q:=by rw[hz,qBQ];unfold jA;rw[qBO];omega
  subst this;simp[-fB',-eB'];exact fM bP (by simp[ak])

end
end Go.Gv
