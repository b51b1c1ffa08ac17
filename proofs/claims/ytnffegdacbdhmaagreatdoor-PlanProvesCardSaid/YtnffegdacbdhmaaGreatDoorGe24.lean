/- W197 -/
import Derived.Test.YtnffegdacbdhmaaGreatDoorGe23
set_option linter.all false
set_option maxRecDepth 100000
set_option maxHeartbeats 0
open Bool renaming forall_bool → fB', exists_bool → eB'
namespace Go.Gv
section
open Cod (enc dec)
open Go.Proofs
variable {S S0:Nat->Spc}
@[simp] abbrev WZ(s:Pst)(z:List B×Int):Option (Pst×Int):=if s.e=0/\0<=z.2 then(BD s).bind λt=>if t.kind≠110 then some (s, -1)else none else none
abbrev qif:Spc:=qb3 (a2 (List B) Int) (enc (X:=Int)) WZ
theorem qqh(h1:S jN=qnm):rS oW oj S (a2 (List B) Int) (enc (X:=Int)) (λs z=>∃r,WZ s z=some r) (λs z u y=>WZ s z=some (u,y)):=by
 rintro b s ⟨l,i⟩ ⟨r,c⟩;have w:=c;simp only[WZ]at c;split at c
 ·rename_i he;obtain⟨he,d⟩:=he;have d:0<=i:=d;obtain⟨t,q,c⟩:=qFF.1 c;split at c
  ·rename_i hk;cases c;simp[oW,oj];refine au (X:=Int) [0,1] [0] (λj=>0<=j) (λj=>[(7,enc j)]) (λ_=>[]) (λj=>(l.length -j).toNat) i d ?_;intro j k;have k:0<=j:=k;have p:∀x:B,qec s 110 x=some false:=λx=>by rw[NC he q,decide_eq_false];exactλh=>hk h.1
   simp[h1,p];exactλ_=>⟨λhl=>⟨k,hl,λa _=>⟨by simp only[InR];omega,j+1,by omega,rfl,by omega⟩⟩,λ_=>qB8 s (by simp) ⟨⟨he,d⟩,by rw[q];simp[hk]⟩⟩
  ·cases c
 ·cases c
abbrev qdo:Spc:=aG a0 (λ_=>True) (enc (X:=List B)) λ_ _=>True
def qfn:ak xD ww S a0 (λ_=>True) (enc (X:=List B)) λ_ _=>True:=by
 rintro x -;simp[xD,ww];exact aL (Y:=List B) [⟨#[]⟩,⟨#[119,105,116,104,105,110]⟩,⟨#[99,111,110,116,97,105,110,105,110,103]⟩,⟨#[111,118,101,114,108,97,112,112,105,110,103]⟩] (.same _) trivial
def qeT(s:B)(y:Qry×Int×Int):Prop:=∃p,O6 s=some p/\y=(⟨p,GlobE, [],0⟩,0,0)
abbrev s_Parse:Spc:=aG (a1 B) (λs=>∃p,O6 s=some p) (qow (Y:=Qry) (Z:=Int) (W:=Int)) qeT
def qoo{H:ab}{l l':List D}(h:FzL H l l'):FrzTo H (.agg l) (.agg l'):= .agg h.get.1 h.get.2
theorem qmX(h1:S Hd=qik)(h2:S sP=qpy)(h3:S ez=SB)(h4:S zw=qdo)(h5:S qO=qif)(h6:S jN=qnm)(j:S dx=OG):
 ak B7 A7 S (a1 B) (λs=>∃p,O6 s=some p) (qow (Y:=Qry) (Z:=Int) (W:=Int)) qeT:=by
 rintro s ⟨p,hp⟩;have h:=hp;unfold O6 at hp;split at hp
 ·rename_i k;obtain⟨l,hl,hp⟩:=qFF.1 hp;obtain⟨⟨a,A⟩,q,hp⟩:=qFF.1 hp;simp only at hp;split at hp
  ·cases hp
  rename_i he;have he:a.e=0:=by simpa using he
  obtain⟨t,b,hp⟩:=qFF.1 hp;split at hp
  ·rename_i hk;cases hp;have hex:∃y,LK s=some y:=⟨l,hl⟩
   have r:uS a ⟨#[58,58]⟩=some (a,false):=BZ he b (by omega);have u:uS a ⟨#[33]⟩=some (a,false):=BZ he b (by omega);have w:qec a 110 ⟨#[115,116,114,97,116,101,103,121]⟩=some false:=by rw[NC he b,decide_eq_false];omega
   have c:¬(400:Int)<s.size:=by omega
   simp[B7,A7,h1,c,hex,-fB'];intro b2 _ l' d x;rw[hl]at d;cases d;simp[h2,q,h3,r];intro C;refine aS (X:=Unit) [2,5,6] [2,6,16] (λ_=>True) (λ_=>[]) (λ_=>[]) ?_ ?_
   ·simp;refine au (X:=Unit) [2,5,6] [2,6,16] (λ_=>True) (λ_=>[]) (λ_=>[]) (λ_=>0) () trivial ?_;rintro - -;simp[h3,h4,h5,he,Jq he,u,b,hk]
   rintro - -;refine aS (X:=Unit) [2,5,6] [2,6,16] (λ_=>True) (λ_=>[]) (λ_=>[]) ?_ ?_
   ·simp[h6,w]
   rintro - -;refine aS (X:=Unit) [2,5,6] [2,6,16] (λ_=>True) (λ_=>[]) (λ_=>[]) ?_ ?_
   ·simp[j,he,Jq he,b,hk]
   rintro - -;simp[he];refine⟨⟨p,GlobE, [],0⟩,qoo ?_,p,h,rfl⟩;simp[GlobE,E0]
  ·cases hp
 ·cases hp
end
section
open Go.Proofs
open Cod (enc dec)
variable {S S0:Nat->Spc}

end
section
open Cod (enc dec)
variable {dq:Prop}
def qku{ds:List D}(h:∀d∈ds,qaV d):qaV (.agg ds):=λtp I b l w w' x j=>by
 cases j with
 |agg xs _ hl a hk=>exact .agg xs _ hl a λk y c h1 h2=>h c (qFK h2) _ _ _ _ _ _ _ (hk k y c h1 h2)
section
variable {X Y:Type}[Cod Y]
theorem XV{P:Program}{f:Nat}{A:dP X}{pre:D×X->Prop}{post:D×X->List Y->Prop}{el n:Nat}(hn:n=Cod.wd Y)(hf:Tri dq P f (qrR (Y:=Y) (aD A) pre post el n).pt)(L:∀y:Y,∀c∈ (enc y).cells,qaV c):Tri dq P f (qpV A pre (enc (X:=List Y)) post).pt:=by
 intro O tp w vs ds H d K hO htl a hlen C hA;obtain⟨id,F,cells,U,x,rfl,hd,hid,hp,hK⟩:=hA;cases vs with
 |nil=>simp at hlen
 | cons v0 vs=>
   have hv0:v0= .pointer (some ⟨F,0,none⟩):=by
    have:=C 0 v0 (.bptr id F 0) rfl rfl;cases this;rfl
   subst hv0
   let W:Nat->Prop:=λb=>O b\/ ∃i r,i≠id/\H i=some r/\r.blk=some b
   have Z:∀b,aR O tp H w b->aR W tp bS w b:=λb hb=>⟨hb.1,λh=>h.elim hb.2.1 λ⟨i,r,_,h1,h2⟩=>hb.2.2.2 ⟨i,r,h1,h2⟩,hb.2.2.1,λ⟨i,r,h1,_⟩=>by simp at h1⟩
   have hmv:∀y e,R tp (aR O tp H w) w y e->R tp (aR W tp bS w) w y e:=λy e hr=>hr.mono (λ_ h=>h) (λb hb=>⟨Z b hb,rfl⟩) (λb _=> .refl _ _)
   have hl:R tp (aR W tp bS w) w (.pointer (some ⟨F,0,none⟩)) (.cptr cells 0):=by
    have M:(Res.box F cells).blk=some F:=rfl;have h1:=a.out id _ F hid M;have hI:aR W tp bS w F:=⟨(a.ok id _ hid).lt M,λh=>h.elim h1.1 λ⟨i,r,hne,h2,h3⟩=>hne (a.dis _ _ _ _ F h2 hid h3 M),h1.2,λ⟨i,r,h2,_⟩=>by simp at h2⟩
    obtain⟨xs,el,g1,g2,g3⟩:=(a.ok id _ hid).conv hmv (λ_ _=>rfl);obtain⟨f,k1,k2,k3⟩:=tq g1 g2 g3;have:=R.cptr (tp:=tp) F 0 cells 0 f hI (λ_=>⟨_,_,g1⟩) k1 k2 k3;simpa using this
   have hdec:(aD A).dec (.cptr cells 0::U)=some (.cptr cells 0,x):=by simp[hd]
   obtain⟨N,hc⟩:=hf W tp w (.pointer (some ⟨F,0,none⟩)::vs) (.cptr cells 0::U) bS d (λr H'=>∃v l,r= .own d v/\post (.cptr cells 0,x) l/\H'=ai bS d (some (.row v el n (l.map enc))))
    (λb hb=>hb.elim (hO b) λ⟨i,r,_,h1,h2⟩=>(a.ok i r h1).lt h2) (htl.mono λb ⟨i,r,h,_⟩=>by simp at h) ⟨λi j r s b h=>by simp at h,λi r b h=>by simp at h,λi r h=>by simp at h⟩ (by simpa using hlen)
    (λk y e h1 h2=>by
      cases k with
      |zero=>simp at h1 h2;subst h1;subst h2;exact hl
      |succ k=>simp at h1 h2;exact hmv _ _ (C (k+1) y e (by simpa using h1) (by simpa using h2)))
    (by rw[qks,hdec];exact⟨hp,λv l hz=>⟨v,l,rfl,hz,rfl⟩⟩)
   refine⟨N,hc.mono ?_⟩;rintro e w' ⟨q,r,H',p,rfl,⟨v,l,rfl,hz,rfl⟩,t1,t2,t3,hs,ho,E,hR⟩;have t:∀b,b<w.heap.size->¬tp b->w'.heap[b]? =w.heap[b]?:=λb hb ht=>hs.same b hb (λ⟨i,r,h,_⟩=>by simp at h) ht
   have Q:∀y e,R tp (aR O tp H w) w y e->R p (aR O p H w') w' y e:=λy e hr=>hr.mono t1 (λb hb=>⟨⟨qFX hb.1 hs.size,hb.2.1,λh=>by
    rcases t2 b h with h|h
    ·exact hb.2.2.1 h
    ·have:=hb.1;omega,hb.2.2.2⟩,t b hb.1 hb.2.2.1⟩) hs.tapes
   have u:ai bS d (some (.row v el n (l.map enc))) d=some (.row v el n (l.map enc)):=by simp[ai]
   have hrk:=E.ok d _ u;have hrk':ResOk (R p (aR O p H w') w') w' (.row v el n (l.map enc)):=by
    obtain⟨xs,g1,g2,g3⟩:=hrk;refine⟨xs,g1,g2,λk y c h1 h2=>⟨(g3 k y c h1 h2).1,?_⟩⟩;have hm:c∈bp (l.map enc):=qFK h2;obtain⟨e,he,N⟩:=qG5.1 hm;obtain⟨y',_,rfl⟩:=qFQ.1 he;exact L y' c N _ _ _ _ _ _ _ (g3 k y c h1 h2).2
   have I:∀b,(Res.row v el n (l.map enc)).blk=some b->aR O p H w' b:=λb hb=>by
    have h1:=ho b ⟨d,_,u,hb⟩;have h2:w.heap.size<=b:=h1.elim (λ⟨i,r,h,_⟩=>by simp at h) λh=>h
    refine⟨hrk.lt hb,λh=>?_,(E.out d _ b u hb).2,λ⟨i,r,h3,h4⟩=>?_⟩
    ·have:=hO b h;omega
    ·have:=(a.ok i r h3).lt h4;omega
   refine⟨q,enc l,H,p,rfl,hK l hz,t1,t2,t3,⟨hs.os,hs.tape,hs.output,hs.size,λb hb _ ht=>t b hb ht,hs.tapes,hs.drawn⟩,λb h=> .inl h,⟨a.dis,λi r b h1 h2=>?_,λi r h1=>?_⟩,?_⟩
   ·have:=a.out i r b h1 h2;refine⟨this.1,λh=>?_⟩;rcases t2 b h with h|h
    ·exact this.2 h
    ·have:=(a.ok i r h1).lt h2;omega
   ·exact(a.ok i r h1).conv Q λb hb=>t b ((a.ok i r h1).lt hb) (a.out i r b h1 hb).2
   ·have J:∀i r,ai bS d (some (.row v el n (l.map enc))) i=some r->r= .row v el n (l.map enc):=λi r h=>by
     unfold ai at h;split at h
     ·exact(qFT h).symm
     ·simp at h
    have hfz:FrzTo (ai bS d (some (.row v el n (l.map enc)))) (.own d v) (.list n (l.map enc)):=fA el u hn;have e1:(enc l:D)= .list n (l.map enc):=by subst hn;rfl
    have hRo:R p (aR O p H w') w' q (.own d v):=by
     cases hR with
     |own _ _ h=>exact .own _ _ h
    rw[e1];exact FrzTo.R (H:=H) hfz (λi r h=>by rw[J i r h];exact hrk') (λ_ h=>h) (λi r b h hb=>by rw[J i r h]at hb;exact I b hb) hRo
end
open Go.Proofs
variable {S:Nat->Spc}
set_option maxRecDepth 100000 in
theorem qmK:TN (Y:=Int) dA du S (aD (a1 St3)) TP qaN bj 1:=by
 rintro⟨d,s⟩ ⟨⟨r,k,hd,hl⟩,hs⟩;have hd:d= .cptr (nX r k) 0:=hd;subst hd;simp[dA,du,nX,-fB',-eB'];intro hl1;refine⟨by omega,by omega,λv hl2=>?_⟩;refine ah (X:=List Int) [3,5] [] r.lb.length (λk z=>z.length=r.lb.length/\∀i,i<k->z[i]? =some (s.get i -1)) (λ_=>[]) (λz=>[(12, .row v bj 1 (z.map enc))]) (List.replicate r.lb.length 0) (by simp) ?_ ?_
 ·rintro j z hj ⟨hz1,hz2⟩;have hg:=ZN s (k:=j) (by omega);have hb:0<=s.get j/\s.get j<=1000000:=hs.2.2 j;have hjz:j<z.length:=by omega
  simp[hj,hg,hjz,-fB',-eB'];refine⟨by omega,by omega,by simp only[InR];omega,z.set j (s.get j -1),⟨by simp[hz1],λi hi=>?_⟩, .inl (by rw[qHA];rfl)⟩;by_cases e:j=i
  ·subst e;rw[qGM (by omega)]
  ·rw[qHP e];exact hz2 i (by omega)
 ·rintro z ⟨hz1,hz2⟩;simp[-fB',-eB'];refine dI z (by simp[ai]) λr' k' e=>?_
  have e:D.cptr (nX r k) 0= .cptr (nX r' k') 0:=e;obtain rfl:=Iu e;refine qGo λi=>?_
  unfold WE;rw[qFU];by_cases hi:i<r.lb.length
  ·rw[hz2 i hi,qHj hi];rfl
  ·rw[qF0 (by omega),qF0 (by simp;omega)];rfl
end
section
open Go.Proofs Cod
variable {dq:Prop}
def dC{P:Program}{f:Nat}{A:Nat->PT}{j:PT}(h:∀n,Tri dq P f (A n))(hs:∀d ds H K,j d ds H K->∃n,A n d ds H K):Tri dq P f j:=
 λO tp w vs ds H d K a b c e g k=>(hs d ds H K k).elim λn hn=>h n O tp w vs ds H d K a b c e g hn
def pP{P:Program}{f:Nat}{A:PT}(hs:∀d ds H K,¬A d ds H K):Tri dq P f A:=λO tp w vs ds H d K a b c e g h=>absurd h (hs d ds H K)
def fH{X Y:Type}{A:dP X}{pre:Nat->X->Prop}{a:X->Prop}{er:Y->D}{post:X->Y->Prop}(b:∀x,a x->∃n,pre n x):∀d ds H K,(aG A a er post).pt d ds H K->∃n,(aG A (pre n) er post).pt d ds H K:=by
 intro d ds H K h;rw[mO]at h;cases e:A.dec ds with
 |none=>rw[e]at h;exact h.elim
 | some x=>
   rw[e]at h;obtain⟨h1,h2⟩:=h;obtain⟨n,hn⟩:=b x h1;exact⟨n,by rw[mO,e];exact⟨hn,h2⟩⟩
def bH{P:Program}{f:Nat}{X Y:Type}{A:dP X}{pre:X->Prop}{er:Y->D}{post:X->Y->Prop}(a:∀x,¬pre x):Tri dq P f (aG A pre er post).pt:=pP λd ds H K h=>by
 rw[mO]at h;cases e:A.dec ds with
 |none=>rw[e]at h;exact h.elim
 |some x=>rw[e]at h;exact a x h.1
def UK{P:Program}{f:Nat}{Y Z:Type}{A:dP Z}{er:Y->D} :Tri dq P f (qms A er λ_ _=>none).pt:=pP λd ds H K h=>by
 obtain⟨id,b',x,z,a,h1,h2,h3,h4,h5,⟨r,h6⟩,b⟩:=h;cases h6
def qng{P:Program}{f:Nat} :Tri dq P f (qs7 λ_ _ _=>none).pt:=pP λd ds H K h=>by
 obtain⟨a,b',x,c,k,r,b,h1,h2,h3,h4,h5⟩:=h;cases h4
def qCG{p:Cond}(h:dB p<=0):False:=by rw[JG]at h;omega
def JF:TQ dq fq Nt:=
 ac (ag ae) GX (HL)
def Lv:TQ dq sW s_cpFold1:=qfu (S:=JN [(fq,Nt)]) (ag (aa JF ae)) rfl
def Lw:TQ dq sX qir:=
 ac (ag ae) I1 (J8)
def Hq:TQ dq oU qiF:=
 ac (ag (aa Lw ae)) FB (F9 rfl)
def Lo:TQ dq dw qis:=
 ac (ag (aa Hq ae)) ID (JT rfl)
def nS:TQ dq dg qix:=
 ac (ag (aa Lo ae)) nc (QX rfl)
def ui:TQ dq eV qio:=
 ac (ag (aa nS ae)) sF (QW rfl)
def Jw:TQ dq qX YK:=
 ac (ag ae) GH (Uv)
def Nc:TQ dq uN qdK:=
 ac (ag (aa Jw ae)) KF (qbf rfl)
def AL:TQ dq fh qnk:=
 ac (ag (aa Nc (aa ui ae))) zi (Ab rfl rfl)
def AQ:TQ dq fh qeK:=Oc AL rfl (λ_=>ZQ (λ_ h=>by cases h))
def Qv:TQ dq wT Ys:=
 Gg (ag (aa AQ ae)) ML (λ_=>qFJ rfl) (NK rfl)
def qat:TQ dq D9 qib:=
 ac (ag ae) Vi (Xg)
def cV:TQ dq bG ym:=
 gy (ag (aa H5 ae)) DM (λ_=>qFJ rfl) (TZ rfl)
def FD:TQ dq ng qdl:=
 gy (ag (aa H5 ae)) DL (λ_=>qFJ rfl) (TY rfl)
def nU:TQ dq eM UU:=
 gy (ag (aa cV (aa FD ae))) yd (λ_=>qFJ rfl) (Hz rfl rfl)
def C7:TQ dq kC qic:=
 gy (ag (aa cV (aa Dn (aa nU ae)))) Bv (λ_=>qFJ rfl) (NL rfl rfl rfl)
def EK:TQ dq lK qid:=
 gy (ag (aa cV (aa C7 (aa Qv ae)))) CW (λ_=>qFJ rfl) (Q1 rfl rfl rfl)
def FE:TQ dq nh qdm:=
 gy (ag (aa cV (aa qat (aa EK (aa Dn (aa nU ae)))))) DN (λ_=>qFJ rfl) (T0 rfl rfl rfl rfl rfl)
def C6:TQ dq kB qia:=
 gy (ag (aa cV (aa FE ae))) Bu (λ_=>qFJ rfl) (NJ rfl rfl)
def C8:TQ dq kD qie:=
 gy (ag (aa cV (aa C6 ae))) Bw (λ_=>qFJ rfl) (NM rfl rfl)
def EJ:TQ dq lJ qh9:=
 gy (ag (aa cV (aa C8 ae))) CV (λ_=>qFJ rfl) (QY rfl rfl)
def EI:∀n,TQ dq tG (qs7 (yN n))
 | 0=>qng
 |n+1=>qbu (ag (aa (EI n) ae)) O8 (by decide) (QZ n rfl)
def Ln:TQ dq sK Yo:=
 ac (ag ae) IC (JS)
def Jt:TQ dq qL Sq:=
 ac (ag (aa Ln ae)) Gs (Hx rfl)
def vz:∀n,TQ dq jo (Gm n)
 | 0=>bH λx h=>by cases h
 |n+1=>ck (ag (aa Jt (aa (vz n) ae))) Fs (λ_=>qFJ rfl) (F3 n rfl rfl)
def xU:∀n,TQ dq kR (qbP n)
 | 0=>bH λx h=>by obtain⟨m,h⟩:=h;cases h
 |n+1=>ck (ag (aa (xU n) ae)) Gt (λ_=>qFJ rfl) (Hy n rfl)
def AM:TQ dq mB Yq:=
 ac (ag (aa (EI 50) (aa (vz 50) (aa (xU 50) ae)))) IF (JV rfl rfl rfl)
def FY:TQ dq tI Kq:=
 ac (ag (aa qqH (aa EJ (aa AM ae)))) Pa (Q2 rfl rfl rfl)
def FZ:TQ dq tL qdB:=
 ac (ag (aa FY ae)) Pw (Ro rfl)
def Lp:TQ dq sL qnl:=
 ac (ag ae) IE (JU)
def vB:TQ dq ir UV:=
 wk (ag ae) DU (λ_=>qFJ rfl) (qqr)
def kM:TQ dq dZ Ns:=
 wk (ag (aa vB ae)) Bz (λ_=>qFJ rfl) (qhs rfl)
def Qu:∀n,TQ dq dy (OA n)/\TQ dq kE (qih n)/\TQ dq fm (qbN n)
 | 0=>⟨UK,UK,UK⟩
 |n+1=>⟨wk (ag (aa (Qu n).1 (aa (Qu n).2.1 (aa kM ae)))) C0 (λ_=>qFJ rfl) (qmW n rfl rfl rfl),wk (ag (aa (Qu n).1 (aa (Qu n).2.2 (aa kM (aa vB ae))))) By (λ_=>qFJ rfl) (qhp n rfl rfl rfl rfl),wk (ag (aa (Qu n).1 (aa (Qu n).2.2 (aa kM ae)))) zl (λ_=>qFJ rfl) (qa9 n rfl rfl rfl)⟩
def qau:TQ dq En (qpt 50):=
 ac (ag (aa (Qu 50).1 ae)) VC (qAg 50 rfl)
def FF:TQ dq nj qii:=
 ac (ag ae) DV (qmY)
def Lm:TQ dq dv qps:=
 ac (ag (aa Lv ae)) IB (qaZ rfl)
def Nb:TQ dq dS qpx:=
 ac (ag ae) Kw (Mk)
def FX:TQ dq tH qin:=
 ac (ag (aa AM (aa Sh (aa qau (aa FF (aa Lp (aa Nb (aa Lm ae)))))))) O9 (Q0 rfl rfl rfl rfl rfl rfl rfl)
def R1:TQ dq zt (qdN false):=
 ac (ag (aa FX ae)) Pb (Q3 rfl)
def Ju:TQ dq qM (qdN true):=
 ac (ag (aa FX ae)) Gu (HA rfl)
def R6:TQ dq zC qdA:=
 ac (ag (aa FY (aa R1 (aa Ju ae)))) Pv (Rm rfl rfl rfl)
def CJ:TQ dq cE qiJ:=
 ac (ag ae) IR (J1)
def Ne:TQ dq fD SA:=
 ac (ag (aa CJ ae)) IQ (J0 rfl)
def Hm:TQ dq bO qdn:=
 ac (ag (aa CJ (aa Ne ae))) DS (Fn rfl rfl)
def vA:TQ dq cQ Kp:=
 ac (ag (aa Sh ae)) DR (Fm rfl)
def Nf:TQ dq uR Yv:=
 ac (ag (aa vA ae)) KO (Mx rfl)
def Ho:TQ dq oQ qiB:=
 ac (ag ae) Fy (F5)
def R5:TQ dq zB qiA:=
 ac (ag (aa Nf (aa Ho ae))) Pu (Rl rfl rfl)
def uj:∀n,TQ dq cR (YC n)
 | 0=>bH λx h=>qCG h.1
 |n+1=>ck (ag (aa (uj n) ae)) DW (λ_=>qFJ rfl) (De n rfl)
def vC:TQ dq cR OL:=dC (λn=>uj n) (fH (λx h=>h))
def JA:TQ dq ra SE:=
 ac (ag ae) GO (F7)
def AO:TQ dq ci U3:=
 ac (ag ae) zo (Ad)
def vq:TQ dq fB (YO Attr (JN [(ci,U3)])):=
 ac (ag (aa AO ae)) tV (N0)
def ee:TQ dq bX EX:=
 ac (ag (aa vq ae)) BA (CP (S0:=(JN [(ci,U3)])) rfl rfl)
def yD:TQ dq kU OM:=
 ac (ag (aa ee ae)) GU (HI rfl)
def JE:TQ dq re YJ:=
 ac (ag ae) GW (HK)
def ge:TQ dq cY OK:=
 ac (ag ae) Bq (NY)
def nT:TQ dq bi qbS:=
 ac (ag (aa ge ae)) mL (HN rfl)
def JB:TQ dq rb YB:=
 ac (ag (aa yD (aa ee (aa Hm ae)))) GP (HF rfl rfl rfl)
def JD:TQ dq rc YI:=
 ac (ag (aa JA (aa JB (aa FZ (aa ee (aa qbt (aa vA (aa nT ae)))))))) GV (HJ rfl rfl rfl rfl rfl rfl rfl)
def Co:TQ dq cJ qdJ:=
 ac (ag (aa JD ae)) AD (AU rfl)
def yB:∀n,TQ dq iH (Yy n)
 | 0=>bH λx h=>by obtain⟨a,lb,_,h,_⟩:=h;cases h
 |n+1=>ck (ag (aa Co (aa (yB n) ae))) IY (λ_=>qFJ rfl) (HE n rfl rfl)
def Ls:TQ dq iH Yx:=dC (λn=>yB n) (fH (λx h=>h))
def mi:TQ dq dz U2:=
 ac (ag (aa vC (aa Ls ae))) C5 (Df rfl rfl)
def FC:TQ dq nf qdz:=
 ac (ag ae) DK (Ux)
def Cm:TQ dq jn qdE:=
 ac (ag (aa FC ae)) Az (MA rfl)
def EM:TQ dq cw Is:=
 ac (ag (aa Cm ae)) C1 (Dd rfl)
def yh:TQ dq dU (YO Region (JN [(cw,Is)])):=
 ac (ag (aa EM ae)) lD (LC)
def vr:TQ dq bQ (YP Region (JN [(cw,Is)])):=
 ac (ag (aa yh ae)) iR (LD rfl)
def Hp:TQ dq oR qiE:=
 ac (ag (aa vr ae)) Fz (F8 (S0:=(JN [(cw,Is)])) rfl rfl)
def pq:∀n,TQ dq fp (It n)
 | 0=>bH λx h=>by obtain⟨_,y,h⟩:=h;cases h
 | n+1=>
   have a:TQ dq aN (qbR n):=ac (ag (aa (pq n) ae)) DY (qfm n rfl);have b:TQ dq cT (qiy n):=ac (ag (aa a ae)) DX (qfl n rfl);have c:TQ dq fj (YO Cond (JN [(aN,qbR n),(cT,qiy n)])):=ac (ag (aa a (aa b ae))) nH (Sc);have d:TQ dq bI (YP Cond (JN [(aN,qbR n),(cT,qiy n)])):=ac (ag (aa c ae)) kP (Sd rfl)
   ac (ag (aa a (aa d (aa yD (aa JE (aa R6 (aa ee (aa R5 (aa ge (aa Hp ae)))))))))) GT (qmR (S0:=(JN [(aN,qbR n),(cT,qiy n)])) n rfl rfl rfl rfl rfl rfl rfl rfl rfl rfl rfl)
def CL:TQ dq oa uq:=
 ac (ag ae) KP (Mz)
def kY:TQ dq cW gA:=
 ac (ag (aa CL ae)) GY (HM rfl)
def Cp:TQ dq mF vD:=
 ac (ag ae) RS (Uu)
def EH:TQ dq lI qiG:=
 ac (ag (aa kY ae)) CT (qqw rfl)
def Nd:TQ dq nZ s_cmpM:=
 ac (ag (aa kY (aa EH (aa Cp ae)))) KH (qqv rfl rfl rfl)
def Ng:TQ dq jR SG:=
 ac (ag ae) AC (qfo)
def Lu:TQ dq sV qdx:=
 ac (ag (aa (pq 21) ae)) I0 (qmP rfl)
def Cn:TQ dq dN qiu:=
 ac (ag ae) pz (qqp)
def qwd:Tri dq Tryz.prog dN b_masg.pt:=XV rfl (Ao (ag ae) pz (λ_=>qFJ rfl) (qmK)) λy c hc=>by
 simp at hc;subst hc;exact PY _
def Jy:TQ dq kS qq0:=
 ac (ag (aa Cn (aa Lu (aa ge ae)))) GJ (qqn rfl rfl rfl)
def qwb:Tri dq Tryz.prog kS b_mtok.pt:=LH Jy λz=>by
 obtain⟨s,v⟩:=z;simp only[qvB];refine ZQ λd a=>?_
 simp only[qFP,qGi,or_false]at a;rcases a with rfl|rfl
 ·exact qku λd a=>by
   simp only[qFP,qGi,or_false]at a;rcases a with rfl|rfl|rfl|rfl<;>exact PY _
 ·exact PY _
def EL:TQ dq cv In:=
 ac (ag ae) CZ (qmL)
def Hl:TQ dq jq qq1:=
 have h1:TQ dq dU (YO Region (JN [(cv,In)])):=ac (ag (aa EL ae)) lD (LC);have h2:TQ dq bQ (YP Region (JN [(cv,In)])):=ac (ag (aa h1 ae)) iR (LD rfl)
 ac (ag (aa h2 ae)) Fu (qqq (S0:=JN [(cv,In)]) rfl rfl)
def qwe:Tri dq Tryz.prog jq b_manc.pt:=LH Hl λ_=>PY _
def Wx:TQ dq BV qdv:=
 ac (ag ae) RP (qmI)
def Wy:Tri dq Tryz.prog yw clC.pt:=qfz Tryz.cloneSet rfl (fu Tryz.func219 (by kernel_rfl) rfl)
def Lr:TQ dq sS qit:=
 qbx (ag ae) IS (λ_=>qFJ rfl) (qqo)
def qi4:TQ dq dM (Su 0):=pP λd ds H K h=>by
 obtain⟨id,b',x,z,a,h1,h2,h3,h4,h5,h6,c⟩:=h;obtain⟨_,_,_,q,_,b,_⟩:=h6;rw[Nv]at b;omega
def qeG:∀n,TQ dq dM (Su n)
 | 0=>qi4
 | n+1=>
   have h1:TQ dq mD (qbQ n):=Gf (ag (aa (qeG n) ae)) IP (λ_=>qFJ rfl) (qqs n rfl);have h2:TQ dq oP (qpv n):=Gf (ag (aa Wx (aa h1 (aa (qeG n) (aa Wy (aa Lr ae)))))) Ft (λ_=>qFJ rfl) (qtX n rfl rfl rfl rfl rfl)
   Gf (ag (aa qwb (aa qwe (aa h1 (aa (qeG n) (aa h2 ae)))))) GK (λ_=>qFJ rfl) (qmG n rfl rfl rfl rfl rfl)
def qst:TQ dq pD (qbO nZ An):=qfx Tryz.sortMatch rfl (λw=>Tryz.isAgg69 w) (λw=>Tryz.sizeOf69 w) rfl Nd (fu Tryz.func97 (by kernel_rfl) rfl) (fu Tryz.func96 (by kernel_rfl) rfl)
def qb6{p:Pat}(h:cg p<=0):False:=by rw[Nv]at h;omega
def Cu:TQ dq cE tT:=
 ac (ag ae) KJ (Mv)
def MG:TQ dq fD Iq:=
 ac (ag (aa Cu ae)) KI (Mu rfl)
def iW:TQ dq bO wn:=
 ac (ag (aa Cu (aa MG ae))) Fv (F4 rfl rfl)
def UD:TQ dq BU qh8:=
 ac (ag ae) RJ (Ul)
def UE:TQ dq mC UY:=
 ac (ag (aa UD ae)) RL (Uo rfl)
def Ru:TQ dq dH EW:=
 ac (ag (aa iW ae)) Pj (Rb rfl)
def N3:TQ dq dh Aq:=
 ac (ag ae) MQ (NQ)
def qha:Nat->Spc:=JN [(mC,UY),(dH,EW),(dh,Aq)]
def qEY(n:Nat):Nat->Spc:=JN [(gL,qij n)]
def qlf{S:Nat->Spc}(h:∀f,TQ dq f (S f)):TQ dq aV (U4 S):=
 ac (ag (aa (ac (S:=S) h vG wh) ae)) sH (tO rfl)
def Cy:∀n,TQ dq jO (Ss n)
 | 0=>bH λx h=>qb6 h.1
 | n+1=>
   have h1:TQ dq gL (qij n):=ac (ag (aa (Cy n) ae)) GE (HC n rfl)
   ac (ag (aa (qlf (S:=qEY n) (ag (aa h1 ae))) ae)) KA (Mn (S0:=qEY n) n rfl rfl)
def ME:TQ dq jO OB:=
 dC (λn=>Cy n) (fH (λx h=>⟨cg x.1,qFM _,h⟩))
def qDy(n:Nat):Nat->Spc:=JN [(jQ,qiD qha n)]
def qDx(n:Nat):Nat->Spc:=JN [(aV,U4 (qDy n)),(mC,UY),(dH,EW),(dh,Aq)]
def qnO(n:Nat)(d:D)(f:Pat->Bool)(h:FunIs qha d f):FunIs (qDx n) d f:=by
 obtain⟨g,c,k,a,b,e⟩:=h;refine⟨g,c,k,a,?_,e⟩;by_cases j:g=aV
 ·subst j;have:qha aV=Spc.none:=rfl;rw[this]at b;cases b
 ·rw[<-b];unfold qDx qha;rw[JN,if_neg j]
def FQ:∀n,TQ dq fN (qdC qha n)
 | 0=>bH λx h=>by obtain⟨f,h1,h2⟩:=h;exact qb6 h2
 | n+1=>
   have h1:TQ dq jQ (qiD qha n):=ac (ag (aa (FQ n) ae)) KC (Mq (S0:=qha) n rfl)
   ac (S:=qDx n) (ag (aa (qlf (S:=qDy n) (ag (aa h1 ae))) (aa UE (aa Ru (aa N3 ae))))) Pk (Rc (S0:=qDy n) (N:=qha) n (qnO n) rfl rfl)
def tw:TQ dq fN (Du qha):=
 dC (λn=>FQ n) (fH (λx h=>by obtain⟨f,h⟩:=h;exact⟨cg x.1,f,h,qFM _⟩))
def yL:TQ dq nP Nu:=
 ac (ag (aa ME (aa tw ae))) Po (Ri (N:=qha) rfl rfl rfl)
def tv:TQ dq gZ cB:=
 ac (ag (aa yL (aa tw ae))) Pi (Q9 (N:=qha) rfl rfl rfl rfl)
def Iz:∀n,TQ dq gK (UW n)
 | 0=>bH λx h=>qb6 h.1
 |n+1=>ck (ag (aa (Iz n) ae)) RK (λ_=>qFJ rfl) (Um n rfl)
def AX:TQ dq gK EU:=
 dC (λn=>Iz n) (fH (λx h=>⟨cg x,qFM _,h⟩))
def DJ:∀n,TQ dq lN (YA n)
 | 0=>bH λx h=>h
 |n+1=>ck (ag (aa (DJ n) ae)) MR (λ_=>qFJ rfl) (NT n rfl)
def N4:TQ dq lN SF:=
 dC (λn=>DJ n) (fH (λx h=>h))
def FH:TQ dq tJ U0:=
 ac (ag (aa N4 ae)) Pl (Rd rfl)
def DH:∀n,TQ dq dK (Tk n)
 | 0=>pP λd ds H K ⟨id,v,l,a,x,h1,h2,h3,h4,h5⟩=>qb6 h4.1
 |n+1=>AY (ag (aa (DH n) (aa FH ae))) Cz (by decide) (NR n rfl rfl)
def Ah:Tri dq Tryz.prog dK i_leavesQA.pt:=dC (λn=>DH n) λd ds H K ⟨id,v,l,a,x,h1,h2,h3,h4,h5⟩=>⟨cg x,id,v,l,a,x,h1,h2,h3,⟨qFM _,h4⟩,h5⟩
def wi:Tri dq Tryz.prog dK s_leavesQ.pt:=Ob (Ao (ag (aa Ah (aa FH ae))) Cz (λ_=>qFJ rfl) (Mo rfl rfl)) Ah
def qhH:Tri dq Tryz.prog bi s_has2.pt:=
 have h:Tri dq Tryz.prog bi s_hasE.pt:=ac (ag (aa ge ae)) mL (F2 rfl)
 Ob h (Oc h rfl λ_=>PY _)
def DI:∀n,TQ dq ct (Zz n)
 | 0=>pP λd ds H K ⟨id,v,l,a,x,h1,h2,h3,h4,h5⟩=>qb6 h4.1
 |n+1=>AY (ag (aa qhH (aa (DI n) ae))) CA (by decide) (NS n rfl rfl)
def Ai:Tri dq Tryz.prog ct i_labelsA.pt:=dC (λn=>DI n) λd ds H K ⟨id,v,l,a,x,h1,h2,h3,h4,h5⟩=>⟨cg x,id,v,l,a,x,h1,h2,h3,⟨qFM _,h4⟩,h5⟩
def lc:Tri dq Tryz.prog ct s_qlabels.pt:=Ob (Ao (ag (aa qhH (aa Ai ae))) CA (λ_=>qFJ rfl) (Mp rfl rfl)) Ai
def N5:TQ dq xb Dt:=
 ac (ag (aa tv (aa lc ae))) MT (NV rfl rfl)
def Ww:TQ dq qU qip:=
 ac (ag ae) FT (Un)
def R2:TQ dq nO qdM:=
 ac (ag (aa Ww ae)) DQ (Rh rfl)
def yi:TQ dq cN qiP:=
 ac (ag ae) lE (xZ)
def jV:TQ dq aY qbU:=
 ac (ag (aa yi ae)) iS (un rfl)
def Dl:TQ dq eX qiH:=
 ac (ag (aa yL (aa tw (aa AX (aa lc (aa jV ae)))))) rW (qqx (N:=qha) rfl rfl rfl rfl rfl rfl rfl)
def Jv:TQ dq gM qdH:=
 ac (ag ae) wP (qmU)
def Lq:TQ dq eA qiI:=
 ac (ag (aa Jv ae)) yo (qqy rfl)
def Kg:TQ dq eB qqZ:=
 ac (ag (aa Dl (aa lc (aa wi (aa mi (aa jV (aa R2 (aa Lq ae)))))))) yp (qql rfl rfl rfl rfl rfl rfl rfl)
def UG:TQ dq BW qdw:=
 ac (ag (aa Ng (aa N5 (aa (qeG 101) (aa qwd (aa qst ae)))))) RQ (qmJ rfl rfl rfl rfl rfl)
def fO:TQ dq dx OG:=
 dQ (ag ae) II (λ_=>qFJ rfl) (qtZ)
def uo:TQ dq jN qnm:=
 dQ (ag (aa fO ae)) Kx (λ_=>qFJ rfl) (qAf rfl)
def iv:TQ dq ez SB:=
 dQ (ag (aa uo ae)) IJ (λ_=>qFJ rfl) (qt1 rfl)
def HV:TQ dq qP qig:=
 dQ (ag (aa fO ae)) Gx (λ_=>qFJ rfl) (qqi rfl)
def HY:TQ dq qS qiz:=
 dQ (ag (aa iv ae)) GB (λ_=>qFJ rfl) (qqu rfl)
def HW:TQ dq qQ qiq:=
 dQ (ag ae) Gy (λ_=>qFJ rfl) (qqm)
def Fo:TQ dq ni ON:=
 dQ (ag (aa fO (aa HW ae))) DO (λ_=>qFJ rfl) (qhv rfl rfl)
def HX:TQ dq qR qiw:=
 dQ (ag (aa fO (aa iv (aa HV (aa HY ae))))) Gz (λ_=>qFJ rfl) (qqt rfl rfl rfl rfl)
def Ke:TQ dq sO qpw:=
 dQ (ag (aa fO (aa iv (aa HX ae)))) IH (λ_=>qFJ rfl) (qtY rfl rfl rfl)
def Kb:TQ dq sM qpu:=
 dQ (ag (aa Fo (aa Ke ae))) IG (λ_=>qFJ rfl) (qtW rfl rfl)
def Kf:TQ dq sP qpy:=
 dQ (ag (aa iv (aa Kb ae))) IK (λ_=>qFJ rfl) (qt2 rfl rfl)
def N1:TQ dq wV tT:=
 ac (ag ae) MM (qbd)
def Rr:TQ dq zu Sz:=
 ac (ag ae) Pd (qfk)
def XK:TQ dq Eb qdp:=
 ac (ag ae) Vm (qmF)
def qbo:TQ dq Hd qik:=
 ac (ag (aa N1 (aa Rr (aa XK ae)))) Y1 (qqj rfl rfl rfl)
def HU:TQ dq qO qif:=
 dQ (ag (aa uo ae)) Gw (λ_=>qFJ rfl) (qqh rfl)
def Rs:TQ dq zw qdo:=
 ac (ag ae) Pe (qfn)
def XO:TQ dq pE s_Parse:=
 ac (ag (aa qbo (aa Kf (aa iv (aa Rs (aa HU (aa uo (aa fO ae)))))))) Vq (qmX rfl rfl rfl rfl rfl rfl rfl)
end
section
open Go.Proofs
def xP:CC:=gq Tryz.f52 [2006006] { cu:=[1] } _
def wH:List aj:=[.cell 6 true 7]
def Pr:FO zz [2006006] xP wH 28:=fo
def vj:CC:=gq Tryz.f100 [2006006,2006006,2083008,2082008] { cu:=[2,4,6,18,21,24] } _
def uE:List aj:=[.cell 6 true 7]
def MW:FO lO [2006006,2006006,2083008,2082008] vj uE 110:=fo
def rH:CC:=gq Tryz.f19 [2006006] { cu:=[2,4,7] } _
def ql:List aj:=[.cell 6 true 13]
open Cod (enc dec)
variable {S S0:Nat->Spc}
abbrev Ar:Spc:=aG (a1 Int) ca (enc (X:=B)) (λ_ y=>y∈Types)
def qfh(h1:S yx=s_m_Mod):ak AK Au S (a1 Int) ca (enc (X:=B)) (λ_ y=>y∈Types):=by
 rintro n -;simp[AK,Au,h1];have h3:=Pz n 3 (by omega);refine⟨h3.1,h3.2,?_⟩;have:KV n 3=0\/KV n 3=1\/KV n 3=2:=by omega
 rcases this with h|h|h<;>simp[h,Types,qzH,qo2,qzG]
def TO(n:Nat)(x:List Int×Int×List B):Prop:=x.2.1.toNat<n/\ -10<=x.2.1/\x.2.1<=100/\x.2.2.length<=1000
def gH{q:Cond->Prop}{H:ab}{op:Int}{n a v l:B}{f:Bool}{d:D}(ks:List Cond)(h:FrzTo H d (enc ks))(j:q ⟨op,n,a,v,l,f,ks⟩):Fin enc q (.agg [.v (.int .i64 op), .v (.string n), .v (.string a), .v (.string v), .v (.string l), .v (.bool f),d]) H:=by
 refine aL (⟨op,n,a,v,l,f,ks⟩:Cond) ?_ j;rw[qkK];refine .agg rfl λk x y b c=>?_
 rcases k with _|_|_|_|_|_|_|k
 ·cases b;cases c;exact .same _
 ·cases b;cases c;exact .same _
 ·cases b;cases c;exact .same _
 ·cases b;cases c;exact .same _
 ·cases b;cases c;exact .same _
 ·cases b;cases c;exact .same _
 ·cases b;cases c;exact h
 ·simp at b
def quf(a b c d e f g h:B):D.list 1 [.v (.string a), .v (.string b), .v (.string c), .v (.string d), .v (.string e), .v (.string f), .v (.string g), .v (.string h)]= .list 1 (X8 [a,b,c,d,e,f,g,h]):=i' rfl
def qpn(a b c d:B):D.list 1 [.v (.string a), .v (.string b), .v (.string c), .v (.string d)]= .list 1 (X8 [a,b,c,d]):=i' rfl
theorem Fa{q:Pat->Prop}{H:ab}{op o:Int}{n a v l lb rg:B}{f:Bool}{j d:D}{mn mx:Int}(h:List Cond)(ks:List Pat)(hc:FrzTo H j (enc h))(p:FrzTo H d (enc ks))(r:q ⟨op,⟨o,n,a,v,l,f,h⟩,lb,rg,mn,mx,ks⟩):
 Fin enc q (.agg [.v (.int .i64 op), .v (.int .i64 o), .v (.string n), .v (.string a), .v (.string v), .v (.string l), .v (.bool f),j, .v (.string lb), .v (.string rg), .v (.int .i64 mn), .v (.int .i64 mx),d]) H:=by
 refine aL (⟨op,⟨o,n,a,v,l,f,h⟩,lb,rg,mn,mx,ks⟩:Pat) ?_ r;rw[Wm];refine .agg rfl λk x y b c=>?_
 rcases k with _|_|_|_|_|_|_|_|_|_|_|_|_|k
 ·cases b;cases c;exact .same _
 ·cases b;cases c;exact .same _
 ·cases b;cases c;exact .same _
 ·cases b;cases c;exact .same _
 ·cases b;cases c;exact .same _
 ·cases b;cases c;exact .same _
 ·cases b;cases c;exact .same _
 ·cases b;cases c;exact hc
 ·cases b;cases c;exact .same _
 ·cases b;cases c;exact .same _
 ·cases b;cases c;exact .same _
 ·cases b;cases c;exact .same _
 ·cases b;cases c;exact p
 ·simp at b
def qeW(n:Nat)(x:List Int×Int×List B):Prop:=x.2.1.toNat<n/\ -10<=x.2.1/\x.2.1<=100/\x.2.2.length<=1000
def qwl(x:List Int×Int×List B)(p:Pat):Prop:=WP x.2.2 x.2.1.toNat p/\PD x.2.1.toNat p
def qcU(x:List Int×Int×List B)(y:Cond):Prop:=GI x.2.2 x.2.1.toNat y
abbrev OH(n:Nat):Spc:=aG (aT (a2 Int (List B))) (TO n) (enc (X:=Cond)) qcU
def qFz{i:Nat}{a:B}(h:[(⟨#[119,111,114,100]⟩:B),⟨#[119,111,114,100]⟩,⟨#[116,97,103]⟩][i]? =some a):a∈Attr2:=by
 have:=aU h;simpa [Attr2,Og,qhR]using this
def qo3{i:Nat}{a:B}(h:[(⟨#[119,111,114,100]⟩:B),⟨#[116,97,103]⟩][i]? =some a):a∈Attr2:=aU h
def qDe{i:Nat}{a:B}(h:[(⟨#[112]⟩:B),⟨#[113]⟩][i]? =some a):a∈FeatL:=aU h
def qDd{i:Nat}{a:B}(h:[(⟨#[49]⟩:B),⟨#[50]⟩][i]? =some a):a∈NumL:=aU h
def qES{i:Nat}{a:B}(h:[(⟨#[97]⟩:B),⟨#[98]⟩,⟨#[97,46,42]⟩,⟨#[91,97,98,93]⟩][i]? =some a):a∈ValsT:=aU h
def qFy{i:Nat}{a:B}(h:[(⟨#[97]⟩:B),⟨#[98]⟩,⟨#[97,46,42]⟩,⟨#[91,97,98,93]⟩,⟨#[88]⟩,⟨#[]⟩,⟨#[99,63]⟩,⟨#[97,124,98]⟩][i]? =some a):a∈ValsI:=by
 have:=aU h;simp only[ValsI,qFP,qGi,or_false]at this ⊢;rcases this with h|h|h|h|h|h|h|h<;>simp[h]
theorem qba(n:Nat)(h1:S bU=s_m_Next)(h2:S uf=Ar)(h3:S lO=OH n):ak vj uE S (aT (a2 Int (List B))) (TO (n+1)) (enc (X:=Cond)) qcU:=by
 rintro⟨L,deep,lb⟩ ⟨hn,E,F,q⟩;simp only at hn E F q;simp[vj,uE,h1];intro b6 W I Z;refine aS (X:=Int) [0,1,2,6] [6] (λk=>0<=k/\k< 12/\(deep< 1->k< 8)) (λk=>[(7,enc k)]) (λ_=>[]) ?_ ?_
 ·simp;have:W.tmod 8=W % 8:=Int.tmod_eq_emod_of_nonneg I;rw[this];omega
 rintro k ⟨q0,q1,q2⟩;refine aS (X:=Unit) [0,1,2,6,7] [6] (λ_=>10<=k) (λ_=>[]) (λ_=>[]) ?_ ?_
 ·simp;refine aS (X:=Bool) [0,1,2,6,7,15] [6] (λb=>b=decide (k< 4)) (λb=>[(16,enc b)]) (λ_=>[]) ?_ ?_
  ·simp
   repeat' first|apply And.intro|intro _
   all_goals first|omega|(rw[qGg];simp;omega)
  rintro b hb;simp[h1,Sk,X7,quf,qpn,nE,tz,-fB'];refine⟨λ_ y c d=>⟨c,d,λa r y c d=>⟨c,d,λJ s y c d=>gH [] (.nil _) (.atom _ _ (.val a J _ (qFz r) (qFy s)))⟩⟩,λp=>?_⟩;rw[p]at hb;have hb:4<=k:=by simpa using hb.symm
  refine⟨λ_ y c d=>⟨c,d,λa r=>gH [] (.nil _) (.atom _ _ (.feat a (qDe r)))⟩,λk4=>⟨λ_ _=>⟨λhl y c d=>⟨c,d,λa r _=>⟨by omega,λy C=>⟨by omega,by omega,λJ s y c d=>⟨c,d,λK A=>gH [] (.nil _) (.atom _ _ (.same a J K (qo3 r) (aU s) (qo3 A)))⟩⟩⟩⟩,λ_=>gH [] (.nil _) (.atom _ _ (.val qhR _ false (by simp[Attr2]) (by simp[ValsI])))⟩,λk5=>?_⟩⟩;refine aS (X:=Bool) [0,1,2,6,7,15] [6] (λb=>b=decide (k=6\/k=7)) (λb=>[(67,enc b)]) (λ_=>[]) ?_ ?_
  ·simp
   repeat' first|apply And.intro|intro _
   all_goals first|omega|(rw[qGg];simp;omega)
  rintro b u;simp[h1,h2,-fB'];refine⟨λ_ y c d=>⟨trivial,λt Y b8=>?_⟩,λp=>?_⟩
  ·refine aS (X:=B×B) [6,8] [6] (λx=>(x.1=E0/\x.2=E0)\/(x.1=qwY/\x.2∈NumL)) (λ_=>[]) (λx=>[(8, .box b8 [.v (.int .i64 5), .v (.string t), .v (.string x.1), .v (.string x.2), .v (.string ⟨#[]⟩), .v (.bool false), .v (.slice none 0 0)])]) ?_ ?_
   ·simp[h1,Sk,nE,tz];refineλy c d=>⟨λ_ z M N=>⟨M,N,λa r=>⟨qwY,a, .inr ⟨rfl,qDd r⟩, .inl ⟨rfl,rfl⟩⟩⟩,λ_=>⟨E0,E0, .inl ⟨rfl,rfl⟩, .inl ⟨rfl,rfl⟩⟩⟩
   ·rintro⟨a,v⟩ O;simp;refine gH [] (.nil _) (.atom _ _ ?_);rcases O with⟨rfl,rfl⟩|⟨rfl,hv⟩
    ·exact .reg t Y
    ·exact .regk t v Y hv
  rw[p]at u;have u:¬(k=6\/k=7):=by simpa using u.symm
  refine aS (X:=Bool) [0,1,2,6,7,15] [6] (λb=>b=decide (k=8\/k=9)) (λb=>[(85,enc b)]) (λ_=>[]) ?_ ?_
  ·simp
   repeat' first|apply And.intro|intro _
   all_goals first|omega|(rw[qGg];simp;omega)
  rintro b l;simp[h3,-fB'];have j:1<=deep->TO n (L,deep -1,lb):=λh=>⟨by show(deep -1).toNat<n;omega,by show -10<=deep -1;omega,by show deep -1<=100;omega,q⟩
  refine⟨λQ=>?_,λp=>?_⟩
  ·rw[Q]at l;have l:k=8\/k=9:=by simpa using l.symm
   have w:deep.toNat=(deep -1).toNat+1:=by omega
   refine⟨by simp only[InR];omega,j (by omega),λy C=>gH [y] (by simp) (by show GI lb deep.toNat _;rw[w];exact .not _ _ C)⟩
  rw[p]at l;have l:¬(k=8\/k=9):=by simpa using l.symm
  omega
 ·rintro -hk;have j:TO n (L,deep -1,lb):=⟨by show(deep -1).toNat<n;omega,by show -10<=deep -1;omega,by show deep -1<=100;omega,q⟩
  have w:deep.toNat=(deep -1).toNat+1:=by omega
  simp[h3];refine⟨by simp only[InR];omega,by simp only[InR];omega,by simp only[InR];omega,j,λy C=>⟨by simp only[InR];omega,j,λy' U=>gH [y,y'] (by simp) (by show GI lb deep.toNat _;rw[w];exact .two _ _ _ _ (by omega) C U)⟩⟩
def qpY(x:List Int×Int×List B)(y:Cond):Prop:=GC x.2.2 x.2.1.toNat y
abbrev Sx:Spc:=aG (aT (a2 Int (List B))) (λx=> -10<=x.2.1/\x.2.1<=100/\x.2.2.length<=1000) (enc (X:=Cond)) qpY
abbrev LO:Spc:=aG (aT (a2 Int (List B))) (λx=>∃n,TO n x) (enc (X:=Cond)) qcU
theorem qfi(h1:S bU=s_m_Next)(h3:S lO=LO):ak xP wH S (aT (a2 Int (List B))) (λx=> -10<=x.2.1/\x.2.1<=100/\x.2.2.length<=1000) (enc (X:=Cond)) qpY:=by
 rintro⟨L,deep,lb⟩ ⟨b,c,d⟩;simp only at b c d;simp[xP,wH,h1];intro q;refine aS (X:=Unit) [0,1,2,6] [6] (λ_=>True) (λ_=>[]) (λ_=>[]) ?_ ?_
 ·simp[h1,qpn,nE,tz,-fB'];exactλy _ _=>⟨λ_=>gH [] (.nil _) .any,λ_=>⟨λ_ z j k=>⟨j,k,λa l u _ _=>gH [] (.nil _) (.top a _ (qES l))⟩,λ_ _ z j k=>⟨j,k,λa l u _ _=>gH [] (.nil _) (.top a _ (qES l))⟩⟩⟩
 ·rintro - -;have h:∃n,TO n (L,deep,lb):=⟨deep.toNat+1,Nat.lt_succ_self _,b,c,d⟩
  simp[h3,h];exactλy p=>gH y.kids (.same _) (by show GC lb deep.toNat _;rw[Jp y];exact .inner _ p)
def qrD{p:Pat}{C:Pat->Prop}(h1:¬p.op=1)(h2:p.kids=[]):∀y∈aq p,C y:=by
 rw[bc,if_neg h1,h2];simp
def qrB{p:Pat}{C:Pat->Prop}(h1:p.op=1)(h:C p):∀y∈aq p,C y:=by
 rw[bc,if_pos h1];simpa using h
def qrC{p a:Pat}{C:Pat->Prop}(h1:¬p.op=1)(h2:p.kids=[a])(b:∀y∈aq a,C y):∀y∈aq p,C y:=by
 rw[bc,if_neg h1,h2];simpa using b
def qjK{p a b:Pat}{C:Pat->Prop}(h1:¬p.op=1)(h2:p.kids=[a,b])(c:∀y∈aq a,C y)(hb:∀y∈aq b,C y):∀y∈aq p,C y:=by
 rw[bc,if_neg h1,h2];simp only[qGk,List.flatMap_nil,qGW];intro y hy;rcases qFL.1 hy with hy|hy
 ·exact c y hy
 ·exact hb y hy
def QL(x:List Int×Int×List B)(p:Pat):Prop:=qwl x p/\∀y∈aq p,GC x.2.2 1 y.cond
abbrev Ip(n:Nat):Spc:=aG (aT (a2 Int (List B))) (qeW n) (enc (X:=Pat)) QL
theorem Us(n:Nat)(h1:S bU=s_m_Next)(h2:S uf=Ar)(h3:S zz=Sx)(h4:S iF=Ip n):ak rH ql S (aT (a2 Int (List B))) (qeW (n+1)) (enc (X:=Pat)) QL:=by
 rintro⟨L,deep,lb⟩ ⟨hn,u,w,q⟩;simp only at hn u w q;simp[rH,ql,h1];intro W I A M;refine aS (X:=Int) [0,1,2,6] [6] (λk=>0<=k/\k< 14/\(deep< 1->k< 7)) (λk=>[(7,enc k)]) (λ_=>[]) ?_ ?_
 ·simp;have:I.tmod 7=I % 7:=Int.tmod_eq_emod_of_nonneg A;rw[this];omega
 rintro k ⟨Y,Z,q2⟩;refine aS (X:=Unit) [0,1,2,6] [6] (λ_=>12<=k) (λ_=>[]) (λ_=>[]) ?_ ?_
 ·have b:1<=deep->qeW n (L,deep -1,lb):=λh=>⟨by show(deep -1).toNat<n;omega,by show -10<=deep -1;omega,by show deep -1<=100;omega,q⟩
  have j:1<=deep->deep.toNat=(deep -1).toNat+1:=λh=>by omega
  simp[h1,h2,h3,h4,-fB'];refine⟨λhk=>⟨q,λc hc N=>?_⟩,λhk=>⟨λC=>⟨by simp only[InR];omega,by simp only[InR];omega,λy _ _=>⟨trivial,λt O=>Fa [] [] (.nil _) (.nil _) ⟨⟨qz2 (.inr ⟨by show(2+k -5=2\/2+k -5=3);omega,rfl,rfl,O,rfl,rfl,rfl⟩),qjf qez rfl⟩,qrD (by show ¬2+k -5=1;omega) rfl⟩⟩⟩,λC=>⟨λr=>⟨by simp only[InR];omega,b (by omega),λy p=>⟨by simp only[InR];omega,b (by omega),λs l=>?_⟩⟩,λr J=>⟨by simp only[InR];omega,b (by omega),λy p=>⟨by simp only[InR];omega,b (by omega),λs l=>?_⟩⟩⟩⟩⟩
  ·refine aS (X:=B) [6,8] [6] (λx=>x=⟨#[]⟩\/x∈lb) (λ_=>[]) (λx=>[(8, .box N [.v (.int .i64 1), .v (.int .i64 c.op), .v (.string c.name), .v (.string c.arg), .v (.string c.val), .v (.string c.lab), .v (.bool c.fold),enc c.kids, .v (.string x), .v (.string ⟨#[]⟩), .v (.int .i64 0), .v (.int .i64 0), .v (.slice none 0 0)])]) ?_ ?_
   ·simp[h1];exactλ_ h0 y _ _ _ _=>⟨by omega,λz hz=>⟨by omega,by omega,λa Q=> .inr ⟨a,aU Q, .inl rfl⟩⟩⟩
   ·rintro x U;simp;exact Fa c.kids [] (.same _) (.nil _) ⟨⟨qz2 (.inl ⟨rfl,U,rfl,rfl,rfl,rfl⟩),qjf ⟨_,qoH (d:=c) rfl (qvj hc)⟩ rfl⟩,qrB rfl (by show GC lb 1 _;rw[Jp c];exact hc)⟩
  ·refine Fa [] [y,s] (.nil _) (by simp) ?_;refine⟨⟨?_,qje (j (by omega)) qez rfl p.1.2 l.1.2⟩,qjK (by show ¬(4:Int)=1;decide) rfl p.2 l.2⟩;show WP lb deep.toNat _;rw[j (by omega)];exact .inr (.inl ⟨.inl rfl,rfl,rfl,rfl,rfl,rfl,y,s,rfl,p.1.1,l.1.1⟩)
  ·refine Fa [] [y,s] (.nil _) (by simp) ?_;refine⟨⟨?_,qje (j (by omega)) qez rfl p.1.2 l.1.2⟩,qjK (by show ¬(5:Int)=1;decide) rfl p.2 l.2⟩;show WP lb deep.toNat _;rw[j (by omega)];exact .inr (.inl ⟨.inr rfl,rfl,rfl,rfl,rfl,rfl,y,s,rfl,p.1.1,l.1.1⟩)
 ·rintro -hk;have b:qeW n (L,deep -1,lb):=⟨by show(deep -1).toNat<n;omega,by show -10<=deep -1;omega,by show deep -1<=100;omega,q⟩
  have j:deep.toNat=(deep -1).toNat+1:=by omega
  have fin:∀(mn mx:Int) (y:Pat) (H:ab),(mn,mx) ∈qaJ->QL (L,deep -1,lb) y->Fin enc (QL (L,deep,lb)) (.agg [.v (.int .i64 6), .v (.int .i64 0), .v (.string ⟨#[]⟩), .v (.string ⟨#[]⟩), .v (.string ⟨#[]⟩), .v (.string ⟨#[]⟩), .v (.bool false), .v (.slice none 0 0), .v (.string ⟨#[]⟩), .v (.string ⟨#[]⟩), .v (.int .i64 mn), .v (.int .i64 mx), .list 13 [enc y]]) H:=by
   intro mn mx y H hm p;refine Fa [] [y] (.nil _) (by simp) ?_;refine⟨⟨?_,qrj j qez rfl p.1.2⟩,qrC (by show ¬(6:Int)=1;decide) rfl p.2⟩;show WP lb deep.toNat _;rw[j];exact .inr (.inr ⟨rfl,rfl,rfl,rfl,hm,y,rfl,p.1.1⟩)
  simp only[Wm]at fin;simp[h1,h4];intro y E F;refine⟨E,F,λd K=>?_⟩;have:y=0\/y=1\/y=2\/y=3\/y=4\/y=5\/y=6:=by omega
  rcases this with rfl|rfl|rfl|rfl|rfl|rfl|rfl
  all_goals (simp at K;subst K;simp[h4])
  all_goals exact⟨by simp only[InR];omega,b,λy p=>fin _ _ y _ (by simp[qaJ]) p⟩
end
section
open Go.Proofs
def P4{f:Pat->Bool}(p:Pat)(h:cx f p=true):tt (λq=>f q=true) p:=by
 induction p using fg with|_ p a=>?_
 rw[cZ,qFO,qFN]at h;exact qnB h.1 λk hk=>a k hk (h.2 k hk)
def qgc(p:Pat):tt xY p->∀q∈uL p,q.op=1->q∈aq p:=by
 induction p using fg with|_ p b=>?_
 intro a q hq h1;have hp:=py a;rw[bc];cases p with
 | mk op cond lab reg mn mx ks=>
   rw[uL]at hq;rcases qFP.1 hq with rfl|hq
   ·rw[if_pos h1];simp
   ·obtain⟨k,hk,hq⟩:=yq hq;split
    ·rename_i e;rcases hp with h|h|h|h
     ·have:=h.2.2.2.2;simp only at this;rw[this]at hk;cases hk
     ·have:=h.1;simp only at this e;omega
     ·have:=h.1;simp only at this e;omega
     ·have:=h.1;simp only at this e;omega
    ·exact qG5.2 ⟨k,hk,b k hk (wM a hk) q hq h1⟩
def qm3:Prop:=aB qzH=true/\aB qo2=true/\aB qzG=true/\aB qsA=true/\aB qtC=true
def Af{b:B}(h:(decide (1<=b.size) && decide (b.size<=32) && (b.data.toList.all λc=>AP c.toNat))=true):aB b=true:=by
 simp only[qFO,decide_eq_true_eq,qFN]at h;have hm:∀(k:Nat) (c:UInt8),b.data[k]? =some c->AP c.toNat=true:=λk c hc=>h.2 c (by rw[<-qF4]at hc;exact qFK hc)
 rw[Gb];exact⟨h.1.1,h.1.2,hm 0,λk c hc=>by unfold RX;rw[hm k c hc];rfl⟩
def qhz:qm3:=⟨Af (by decide),Af (by decide),Af (by decide),Af (by decide),Af (by decide)⟩
def VG{lb:List B} :∀{n:Nat} {c:Cond},GI lb n c->M2 (n+1) c
 |n,_, .atom _ c h=>⟨by rw[yt h];decide,λk hk=>by rw[yt h]at hk;cases hk⟩
 | _,_, .not n k h=>⟨qFJ rfl,λz hz=>by rw[qGY]at hz;subst hz;exact VG h⟩
 | _,_, .two n op a b _ h1 h2=>⟨qFJ rfl,λz hz=>by
    simp only[qFP,qGi,or_false]at hz;rcases hz with rfl|rfl
    ·exact VG h1
    ·exact VG h2⟩
def qry{lb:List B}{n:Nat}{c:Cond}(h:GC lb n c):∃m,M2 m c:=by
 cases h with
 |any=>exact⟨1,by decide,λk hk=>by cases hk⟩
 |top v f h=>exact⟨1,qFJ rfl,λk hk=>by cases hk⟩
 |inner c h=>exact⟨_,VG h⟩
structure TR (c:Corpus):Prop where
 ok:OkCorp c
 few:c.toks.length<=60


open Cod (enc dec)
variable {S S0:Nat->Spc}
end
section
open Go.Proofs
def IT:FO iF [2006006] rH ql 103:=fo
open Go.Proofs Cod
variable {dq:Prop}
def Jz:TQ dq uf Ar:=
 ac (ag (aa UQ ae)) SQ (qfh rfl)
def CK:∀n,TQ dq lO (OH n)
 | 0=>bH λx h=>by have:=h.1;omega
 |n+1=>ck (ag (aa de (aa Jz (aa (CK n) ae)))) MW (λ_=>qFJ rfl) (qba n rfl rfl rfl)
def Qw:TQ dq lO LO:=dC (λn=>CK n) (fH (λx h=>h))
def R3:TQ dq zz Sx:=
 ac (ag (aa de (aa Qw ae))) Pr (qfi rfl rfl)
def AN:∀n,TQ dq iF (Ip n)
 | 0=>bH λx h=>by have:=h.1;omega
 |n+1=>ck (ag (aa de (aa Jz (aa R3 (aa (AN n) ae))))) IT (λ_=>qFJ rfl) (Us n rfl rfl rfl rfl)
end
section
open Go.Proofs
def WB(w:Int×Int)(d:Int):Prop:=0<=d/\w.1<=d/\(w.2= -1\/d<=w.2\/10000<d)
def qqg{a b:Int×Int}{d e:Int}(c:WB a d)(hb:WB b e):WB (Fl true a b) (d+e):=by
 unfold WB Fl at*;rw[if_pos rfl];refine⟨by omega,by simp only;omega,?_⟩;simp only;split<;>omega
def qmE{a b:Int×Int}{d:Int}(c:WB a d):WB (Fl false a b) d:=by
 unfold WB Fl at*;rw[if_neg (by decide)];refine⟨by omega,by simp only;omega,?_⟩;simp only;split<;>omega
def qmD{a b:Int×Int}{d:Int}(c:WB b d):WB (Fl false a b) d:=by
 unfold WB Fl at*;rw[if_neg (by decide)];refine⟨by omega,by simp only;omega,?_⟩;simp only;split<;>omega
def TX{d:Int} :∀(ks:List Pat) (w:Int×Int),WB w d->WB (gw false ks w) d
 | [],w,h=>by rw[gw];exact h
 |k::ks,w,h=>by rw[gw];exact TX ks _ (qmE h)
def WD(r:Rn)(p:Pat):Prop:=∀s t,pM r p s t->WB (aO p) (t.p -s.p)
def qdc{r:Rn} :∀(ks:List Pat) (w:Int×Int) (d:Int) (s t:St3),(∀k∈ks,WD r k)->WB w d->zZ r ks s t->WB (gw true ks w) (d+ (t.p -s.p))
 | [],w,d,s,t,_,h,c=>by
   rw[xp]at c;rw[gw,c,Int.sub_self,Int.add_zero];exact h
 | k::ks,w,d,s,t,hk,h,c=>by
   rw[pF]at c;obtain⟨u,a,b⟩:=c;rw[gw];have:=qdc ks _ _ u t (λk h=>hk k (by simp[h])) (qqg h (hk k (by simp) s u a)) b;rw[show d+ (t.p -s.p)=d+ (u.p -s.p) + (t.p -u.p)by omega];exact this
def qdd{r:Rn} :∀(ks:List Pat) (w:Int×Int) (s t:St3),(∀k∈ks,WD r k)->Ct r ks s t->WB (gw false ks w) (t.p -s.p)
 | [],w,s,t,_,a=>by rw[Js]at a;exact a.elim
 | k::ks,w,s,t,hk,a=>by
   rw[wg]at a;rw[gw];rcases a with h|h
   ·exact TX ks _ (qmD (hk k (by simp) s t h))
   ·exact qdd ks _ s t (λk h=>hk k (by simp[h])) h
def JR{R:St3->St3->Prop}{w:Int×Int}(h:∀s t,R s t->WB w (t.p -s.p)):∀(n:Nat) (s t:St3),Pow R n s t->0<=t.p -s.p/\w.1*n<=t.p -s.p/\(w.2= -1\/t.p -s.p<=w.2*n\/10000<t.p -s.p)
 | 0,s,t,hp=>by
   have hp:s=t:=hp;subst hp;simp
 | n+1,s,t,⟨u,a,b⟩=>by
   have h1:=h s u a;have h2:=JR h n u t b;unfold WB at h1;rw[show((n+1:Nat):Int)=(n:Int) +1 by omega,Int.mul_add,Int.mul_add];omega
theorem Wq{r:Rn}{v:B->Bool}(p:Pat):fy v p=true->WD r p:=by
 induction p using fg with|_ p l=>?_
 intro h s t d;obtain⟨h1,_,hn⟩:=cH h;unfold lF at hn;rw[decide_eq_true_eq]at hn;rcases mA h1 with⟨ho,_⟩|⟨ho,_⟩|⟨ho,k,ks,hk⟩|⟨ho,k,hk⟩
 ·rw[Xf ho];have hp:=((qet ho s t).1 d).2.2;have:t.p=s.p+1:=by
   rw[hp];unfold KR;dsimp only;split
   ·rfl
   ·generalize (fe r.lb λz=>decide (z=p.lab)).toNat=i;rcases i with _|_|i<;>rfl
  unfold WB;simp only;omega
 ·rw[qda ho,((Qf ho s t).1 d).2];unfold WB;simp only;omega
 ·rw[qc9 ho hk];have c:∀x∈p.kids,WD r x:=λx j=>l x j (dX h j)
  rcases ho with ho|ho
  ·rw[qkW ho,hk,pF]at d;obtain⟨u,a,b⟩:=d;rw[show decide (p.op=4)=true from decide_eq_true ho,show t.p -s.p=(u.p -s.p) + (t.p -u.p)by omega];exact qdc ks _ _ u t (λx j=>c x (by rw[hk];simp[j])) (c k (by rw[hk];simp) s u a) b
  ·rw[qpR ho,hk,wg]at d;rw[show decide (p.op=4)=false from decide_eq_false (by omega)];rcases d with a|a
   ·exact TX ks _ (c k (by rw[hk];simp) s t a)
   ·exact qdd ks _ s t (λx j=>c x (by rw[hk];simp[j])) a
 ·rw[qc8 ho hk];have y:=l k (by rw[hk];simp) (dX h (by rw[hk];simp));have hn:=hn ho;rw[qes ho hk]at d;obtain⟨u,a,n,hm,b⟩:=d;have ok:=tu k (dX h (by rw[hk];simp));have a1:=JR y _ s u a;have b1:=JR (λs t q=>y s t q.1) n u t b;rw[Int.toNat_of_nonneg hn.1]at a1;unfold dG at ok;generalize aO k=w at*;have A:0<=w.1*n:=qHh ok.1 (by omega);refine⟨by omega,by simp only;omega,?_⟩;simp only;split
  ·rename_i h0;rcases h0 with h0|h0
   ·have h2:p.mn=0:=by omega
    have h3:n=0:=by omega
    subst h3;rw[h2]at a;have a:s=u:=a;have b:u=t:=b;subst a;subst b;omega
   ·rw[h0,Int.zero_mul]at a1 b1;omega
  ·split
   ·exact .inl rfl
   ·rename_i h0 h2;have h3:p.mn+n<=p.mx:=by omega
    have h4:w.2* (p.mn+n)<=w.2*p.mx:=Int.mul_le_mul_of_nonneg_left h3 (by omega);rw[Int.mul_add]at h4;omega


open Cod (enc dec)
variable {S S0:Nat->Spc}
end
section
open Go.Proofs Cod
variable {dq:Prop}
def FP:∀n,TQ dq nM (Nq n)
 | 0=>bH λx h=>qb6 h.1
 |n+1=>ck (ag (aa (FP n) ae)) Ph (λ_=>qFJ rfl) (Q8 n rfl)
def Rt:TQ dq nM Ih:=
 dC (λn=>FP n) (fH (λx h=>⟨cg x,qFM _,h⟩))
def FI:TQ dq hU EY:=
 ac (ag (aa tv (aa Rt ae))) Pn (Rg rfl rfl)
end
section
variable {S S0:Nat->Spc}
mutual
def qI:Glob->Nat| .mk _ _ _ _ _ _ _ _ _ _ ks=>pB ks+1
def pB:List Glob->Nat|[]=>0|k::ks=>max (qI k) (pB ks)
end
def K2:∀{ks:List Glob} {k:Glob},k∈ks->qI k<=pB ks
 | x::ks,k,h=>by
   rw[pB];rcases qFP.1 h with rfl|h
   ·omega
   ·have:=K2 h;omega
def ZO{p k:Glob}(h:k∈p.kids):qI k<qI p:=by
 have:=K2 h;cases p;rw[qI];simp only at this;omega
mutual
def I5:Glob->Nat| .mk _ _ _ _ _ _ _ _ _ _ ks=>pA ks+1
def pA:List Glob->Nat|[]=>0|k::ks=>I5 k+pA ks
end
def qdY(x:Glob):I5 x=pA x.kids+1:=by cases x;rw[I5]
def NF(x:Glob):qI x=pB x.kids+1:=by cases x;rw[qI]
def KS:∀(a b:List Glob),pA (a++b)=pA a+pA b
 | [],b=>by rw[qGE,pA];omega
 |k::a,b=>by rw[qGp,pA,pA,KS a b];omega
def Tp:∀(a b:List Glob),pB (a++b)=max (pB a) (pB b)
 | [],b=>by rw[qGE,pB];omega
 |k::a,b=>by rw[qGp,pB,pB,Tp a b];omega
def qf8{ks:List Glob}{k:Nat}{x:Glob}(h:ks[k]? =some x):pA (ks.take (k+1))=pA (ks.take k) +I5 x/\pB (ks.take (k+1))=max (pB (ks.take k)) (qI x)/\pA (ks.take (k+1))<=pA ks:=by
 have e:=av h;refine⟨by rw[e,KS,pA,pA];omega,by rw[e,Tp,pB,pB];omega,?_⟩
 conv=>rhs;rw[<-qGf (k+1) ks,KS]
 omega
def qrP{lb:List B}{n:Nat}{g:Glob}(h:GG lb n g):I5 g< 2^ (n+1)/\qI g<=n+1:=by
 induction h with
 |not n k h j=>rw[I5,qI,Nat.pow_succ];simp only[pA,pB];omega
 |two n op a b ho h1 h2 c d=>rw[I5,qI,Nat.pow_succ];simp only[pA,pB];omega
 |bound n|val n|same n|dist n|reg n|head n|path n|node n|depth n=>have:=Nat.one_le_two_pow (n:=n);rw[I5,qI,Nat.pow_succ];simp only[pA,pB];omega
def qki{lb:List B}{n:Nat}{g k:Glob}(h:GG lb n g)(hk:k∈g.kids):∃m,m<=n/\GG lb m k:=by
 cases h with
 | not n c h=>
   simp at hk;subst hk;exact⟨n,by omega,h⟩
 | two n op a b ho h1 h2=>
   simp at hk;rcases hk with rfl|rfl
   ·exact⟨n,by omega,h1⟩
   ·exact⟨n,by omega,h2⟩
 | _=>cases hk
end
section
open Go.Proofs
def tb:CC:=gq Tryz.f121 [3] {} _
def sq:List aj:=[.tmp 6, .tmp 7]
def KB:FO jP [3] tb sq 40:=fo
def bV:CC:=gq Tryz.f123 [1,2029005,2028005,2027005,2026005,2037005,2036005,2045005,2044005,2068005,2067005,2066005] {} _
def bT:List aj:=[.tmp 2]
def RN:FO eN [1,2029005,2028005,2027005,2026005,2037005,2036005,2045005,2044005,2068005,2067005,2066005] bV bT 155:=fo
def xK:CC:=gq Tryz.f122 [3,2] {} _
def wD:List aj:=[.tmp 4]
def Pm:FO nN [3,2] xK wD 15:=fo
def td:CC:=gq Tryz.f185 [2] {} _
def su:List aj:=[.tmp 3]
def KD:FO gu [2] td su 8:=fo
def dF:CC:=gq Tryz.f184 [] {} _
def dD:List aj:=[.tmp 4]
def pI:FO dJ [] dF dD 9:=fo
def eE:CC:=gq Tryz.f240 [] {} _
def ej:List aj:=[.tmp 4]
def sG:FO eW [] eE ej 19:=fo
def lV:CC:=gq Tryz.f187 [] {} _
def lm:List aj:=[.tmp 2]
def DP:FO fF [] lV lm 10:=fo
def eZ:CC:=gq Tryz.f186 [] {} _
def eR:List aj:=[.tmp 4]
def tW:FO fC [] eZ eR 9:=fo
def fW:CC:=gq Tryz.f241 [] {} _
def fP:List aj:=[.tmp 4]
def wN:FO gi [] fW fP 19:=fo
end
end Go.Gv
