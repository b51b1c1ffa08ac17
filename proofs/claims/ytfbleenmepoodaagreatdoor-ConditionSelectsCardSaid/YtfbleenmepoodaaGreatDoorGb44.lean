/- A part of the framework and of the walks: W217 W214 V59 W218 Asm31 Fr Fr2 Fr3 V32 Fr4. -/
import Derived.ProofKit
import Derived.OpenShut
import Derived.ShutString
import Derived.ChangeOld
import Derived.Test.YtfbleenmepoodaaGreatDoorGb43
set_option linter.unusedSimpArgs false
set_option linter.unusedVariables false
set_option linter.unusedSectionVars false
set_option linter.defProp false
set_option maxRecDepth 100000
namespace Go.Gv
open Go.Proofs
open Cod (enc dec)
variable {S S0:Nat->Spc}
abbrev qer:Spc:=qeo (Y:=B) (a1 B) (λ_=>True) (enc (X:=Bool)) (λx y=>y=gA x.1 x.2) ar 1
def Qj:av wc vV S (aE (List B) (a1 B)) (λ_=>True) (enc (X:=Bool)) λx y=>y=gA x.1 x.2:=by
 rintro⟨l,s⟩ -;exact Kz (l,s) trivial
def VC(x:Cond)(l:List B):Prop:=l.length+aJ x<=1000
abbrev s_rInE:Spc:=aY (aE (List B) (a1 B)) (λ_=>True) (enc (X:=Bool)) λx y=>y=gA x.1 x.2
abbrev s_rIn2:Spc:=qh5 s_rInE qer
abbrev Ju(n:Nat):Spc:=qiI (X:=Cond) (Y:=B) (λx l=>aA x<=n/\VC x l) (λx l r=>r=nT l x) ar 1
def GW{n:Nat}{x:Cond}{l l2:List B}{k:Nat}{y:Cond}(hd:aA x<=n+1)(hl:VC x l)(hy:x.kids[k]? =some y)(hP:l2=gz (ba l x) (x.kids.take k)):aA y<=n/\VC y l2:=by
 have hm:=qme hy;have hn:=ej x;have hal:=lR l x;unfold VC at hl;refine⟨by have:=rH hm;omega,?_⟩;unfold VC;have h3:=rv (ba l x) (x.kids.take k);have h4:=(BE hy).2.2;rw[<-hP]at h3;omega
theorem H9(n:Nat)(h0:S mC=s_rIn2)(h1:S fA=Ju n):Vo (X:=Cond) (Y:=B) jg ja S (λx l=>aA x<=n+1/\VC x l) (λx l r=>r=nT l x) ar 1:=by
 rintro v l x ⟨hd,hl⟩;have hd:aA x<=n+1:=hd;have hl0:VC x l:=hl;have hl':l.length+aJ x<=1000:=hl;have hn:=ej x;have hal:=lR l x;simp[jg,ja,h0, -Bool.forall_bool, -Bool.exists_bool];refine cm (X:=Value) [2] [] (λ_=>True) (λv=>[(1, .own 1 v)]) (λv=>[(1, .row v ar 1 ((ba l x).map enc))]) ?_ ?_
 ·by_cases h4:x.op=4
  ·by_cases h5:gA l x.lab=true
   ·have ea:ba l x=l:=by unfold ba;rw[if_neg (by simp[h5])]
    simp[h0,h4,h5,ea, -Bool.forall_bool, -Bool.exists_bool]
   ·have h5':gA l x.lab=false:=by simpa using h5
    have ea:ba l x=l++ [x.lab]:=by unfold ba;rw[if_pos ⟨h4,h5'⟩]
    simp[h0,h4,h5',ea, -Bool.forall_bool, -Bool.exists_bool];exact .inr ⟨by omega,by omega⟩
  ·have ea:ba l x=l:=by unfold ba;rw[if_neg (by simp[h4])]
   simp[h0,h4,ea, -Bool.forall_bool, -Bool.exists_bool]
 ·rintro v' -;simp[-Bool.forall_bool, -Bool.exists_bool];intro hkl;refine ak (X:=Value×List B) [23] [] x.kids.length (λk z=>z.2=gz (ba l x) (x.kids.take k)) (λz=>[(1, .own 1 z.1)]) (λz=>[(1, .row z.1 ar 1 (z.2.map enc))]) (v',ba l x) (by simp) (by simp) (by omega) (by simp) (by simp) (by simp[gz]) (by simp) (by simp) ?_ ?_
  ·rintro k ⟨v2,l2⟩ hk hP;obtain⟨y,hy⟩:=bL hk;obtain⟨_,hgy⟩:=qmb.1 hy;have hP:l2=gz (ba l x) (x.kids.take k):=hP;obtain⟨q1,q2⟩:=GW hd hl0 hy hP;simp[h1,hk,hy,hgy,q1,q2, -Bool.forall_bool, -Bool.exists_bool];intro v3;refine .inl ?_;rw[hP,aK hy,ym]
  ·rintro⟨v2,l2⟩ hP;have hP:l2=gz (ba l x) (x.kids.take x.kids.length):=hP;rw[qmJ]at hP;simp[-Bool.forall_bool, -Bool.exists_bool];refine JH l2 (by simp) ?_;rw[hP,Dt,gU]
theorem FT(n:Nat)(h0:S mC=s_rIn2)(h1:S fA=Ju n):Y6 (Y:=B) jg ja S (aE Cond (aD a0)) (λx=>x.2.1= .v (.slice none 0 0)/\aA x.1<=n+1/\VC x.1 []) (λx r=>r=nT [] x.1) ar 1:=by
 rintro⟨x,d,⟨⟩⟩ ⟨hd0,hd,hl⟩;have hd0:d= .v (.slice none 0 0):=hd0;subst hd0;have hd:aA x<=n+1:=hd;have hl0:VC x []:=hl;have hl':0+aJ x<=1000:=hl;have hn:=ej x;have hal:=lR [] x;simp[jg,ja,h0, -Bool.forall_bool, -Bool.exists_bool];refine cm (X:=Value) [2] [] (λ_=>True) (λv=>[(1, .own 21 v)]) (λv=>[(21, .row v ar 1 ((ba [] x).map enc))]) ?_ ?_
 ·by_cases h4:x.op=4
  ·have h5:gA [] x.lab=false:=rfl;have ea:ba [] x=[x.lab]:=by unfold ba;rw[if_pos ⟨h4,h5⟩];rfl
   simp[h0,h4,h5,ea, -Bool.forall_bool, -Bool.exists_bool]
  ·have ea:ba [] x=[]:=by unfold ba;rw[if_neg (by simp[h4])]
   simp[h0,h4,ea,isNilRow, -Bool.forall_bool, -Bool.exists_bool]
 ·rintro v -;simp[-Bool.forall_bool, -Bool.exists_bool];intro hkl;refine ak (X:=Value×List B) [23] [] x.kids.length (λk z=>z.2=gz (ba [] x) (x.kids.take k)) (λz=>[(1, .own 21 z.1)]) (λz=>[(21, .row z.1 ar 1 (z.2.map enc))]) (v,ba [] x) (by simp) (by simp) (by omega) (by simp) (by simp) (by simp[gz]) (by simp) (by simp) ?_ ?_
  ·rintro k ⟨v2,l2⟩ hk hP;obtain⟨y,hy⟩:=bL hk;obtain⟨_,hgy⟩:=qmb.1 hy;have hP:l2=gz (ba [] x) (x.kids.take k):=hP;obtain⟨q1,q2⟩:=GW hd hl0 hy hP;simp[h1,hk,hy,hgy,q1,q2, -Bool.forall_bool, -Bool.exists_bool];intro v3;refine .inl ?_;rw[hP,aK hy,ym]
  ·rintro⟨v2,l2⟩ hP;have hP:l2=gz (ba [] x) (x.kids.take x.kids.length):=hP;rw[qmJ]at hP;simp[-Bool.forall_bool, -Bool.exists_bool];refine JH l2 (by simp) ?_;rw[hP,Dt,gU]
abbrev f_rlab:Spc:=qiP (Y:=B) (aE Cond (aD a0)) (λx=>x.2.1= .v (.slice none 0 0)/\aA x.1<=20/\VC x.1 []) (λx r=>r=nT [] x.1) ar 1
abbrev s_rLabels:Spc:=aY (a1 Cond) (λx=>aJ x<=60/\aA x<=20) (enc (X:=List B)) λx y=>y=nT [] x
def Ib(h1:S jK=s_rNodes)(h2:S fA=f_rlab):av qL qr S (a1 Cond) (λx=>aJ x<=60/\aA x<=20) (enc (X:=List B)) λx y=>y=nT [] x:=by
 rintro x ⟨hn,hd⟩;have q1:¬60 < (aJ x:Int):=by omega
 have hl:VC x []:=by show 0+aJ x<=1000;omega
 simp[qL,qr,h1,h2,hn,hd,q1,hl, -Bool.forall_bool, -Bool.exists_bool];exactλv=>cp (nT [] x) (iM ar (by simp)) rfl
def xM{x:Cond}(o:Int)(e:x.op=o)(h:o≠2/\o≠3/\o≠4/\o≠5):qfm x:=⟨λq=>(h.1 (e.symm.trans q)).elim,λq=>(h.2.1 (e.symm.trans q)).elim,λq=>(h.2.2.1 (e.symm.trans q)).elim,λq=>(h.2.2.2 (e.symm.trans q)).elim⟩
def ZM{lb:List B}{x:Cond}(h:GA lb x):qfm x:=by
 cases h with
 | val nm v f h1 h2=>exact⟨λ_=>⟨h2, .inr h1⟩,λh=>(by cases h),λh=>(by cases h),λh=>(by cases h)⟩
 | feat v h=>exact⟨λh=>(by cases h),λ_=>⟨h,rfl⟩,λh=>(by cases h),λh=>(by cases h)⟩
 | same nm l a h1 h2 h3=>exact⟨λh=>(by cases h),λh=>(by cases h),λ_=>⟨h1,h3⟩,λh=>(by cases h)⟩
 | reg nm h=>exact⟨λh=>(by cases h),λh=>(by cases h),λh=>(by cases h),λ_=>⟨.tail _ h, .inl rfl, .head _⟩⟩
 | regk nm v h1 h2=>exact⟨λh=>(by cases h),λh=>(by cases h),λh=>(by cases h),λ_=>⟨.tail _ h1, .inr (.head _), .tail _ h2⟩⟩
def EH{lb:List B} :∀ {n m:Nat} {x:Cond},GI lb n x->n < m->WU dA lb m x
 | _,m+1,_, .atom n c h,_=>⟨Ji h,ZM h,λk hk=>by rw[Aq h]at hk;cases hk⟩
 | _,m+1,_, .not n k h,hm=>⟨rfl,xM 6 rfl (by decide),λz hz=>by
    rcases qnf.1 hz with rfl;exact EH h (by omega)⟩
 | _,m+1,_, .two n op a b ho h1 h2,hm=>⟨by rcases ho with rfl|rfl <;> rfl,by rcases ho with e|e;exact xM 7 e (by decide);exact xM 8 e (by decide),λz hz=>by
    have hz:z∈ [a,b]:=hz;simp only[qmw,qmM,or_false]at hz;rcases hz with rfl|rfl
    ·exact EH h1 (by omega)
    ·exact EH h2 (by omega)⟩
def Wl:∀v∈ValsT,v∈ValsI:=by decide
def NR{lb:List B}{n m:Nat}{x:Cond}(h:GC lb n x)(hm:n < m):WU dA lb m x:=by
 obtain⟨m,rfl⟩:∃k,m=k+1:=⟨m -1,by omega⟩
 cases h with
 | any=>exact⟨rfl,xM 1 rfl (by decide),λk hk=>by cases hk⟩
 | top v f h=>
   have h0:=qmg.1 R9 v h;simp only[qmf]at h0;refine⟨?_,⟨λ_=>⟨Wl v h, .inl rfl⟩,λh=>(by cases h),λh=>(by cases h),λh=>(by cases h)⟩,λk hk=>by cases hk⟩;rw[EI];cases f
   ·exact h0.1
   ·exact h0.2
 | inner c h=>exact EH h hm
def ZH{c:Corpus}(hc:OkCorp c){x:Cond}{tok:Int}{bd:List Int}{lb:List B}{n:Nat}(t0:0<=tok)(t1:tok < c.toks.length)(hbl:bd.length=lb.length)(hl:lb.length<=1000)(hb:∀b∈bd, -1<=b/\b < c.toks.length)(hx:GC lb n x)(hn:n<=4):Vu (c,x,tok,lb,bd):=by
 obtain⟨h1,h2⟩:=N9 hx;have h3:2^ (n+1)<=2^5:=Nat.pow_le_pow_right (by decide) (by omega);have hE:FC ⟨c,tok,lb,bd⟩:=⟨hc,t0,t1,hbl⟩
 refine⟨⟨hc,?_,t0,t1,hbl,hl,hb,Pv (m:=21) hE hx (by omega)⟩,by show aJ x<=60;omega,by show aA x<=20;omega⟩;show WU c.attrs lb 21 x;rw[hc.1];exact NR hx (by omega)
abbrev s_lHol:Spc:=aY (a2 (List Int) (List Int)) (λ_=>True) (enc (X:=Bool)) λ_ y=>y=true
theorem FY(h1:S Dw=s_m_New)(h2:S jl=s_m_Corpus)(h3:S mf=Bo)(h4:S kI=Ee)(h5:S qG=Ls)(h6:S kP=qcp)(h7:S mg=Bq)(h8:S vi=s_rHd)(h9:S bD=Iz):
 av eV eO S (a2 (List Int) (List Int)) (λ_=>True) (enc (X:=Bool)) λ_ y=>y=true:=by
 rintro⟨l,m⟩ -;simp[eV,eO,h1,h2,h3,h4, -Bool.forall_bool, -Bool.exists_bool];intro L c hw hk _;have hc:=Tq hw hk;have hlb:lbs2.length<=1000:=by decide
 refine⟨hlb,λx hx=>?_⟩;have hx:GC lbs2 3 x:=hx;intro b6 b7 _;have hlen:c.toks.length<=4096:=hc.2.2.1;refine ak (X:=Unit) [5,6,7] [6,7] c.toks.length (λ_ _=>True) (λ_=>[]) (λ_=>[]) () (by simp) (by simp) (by omega) (by simp) (by simp) trivial (by simp) (by simp) ?_ ?_
 ·rintro k -hk -;have hPb:∀L,qaY (L,c):=λ_=>hc
  simp[h4,h5,h6,h8,hk,hPb, -Bool.forall_bool, -Bool.exists_bool];intro bd hbd;have t0:(0:Int)<=(k:Int):=by omega
  have t1:(k:Int) < c.toks.length:=by omega
  have hbd':Yo (([]:List Int),c) bd:=hbd;have hE:FC ⟨c,(k:Int),lbs2,bd⟩:=⟨hc,t0,t1,hbd.1⟩
  obtain⟨p,hp⟩:=Pv (m:=21) hE hx (by omega);refine⟨Z7 hc t0 t1 hbd' (Tt hx (by omega)) ⟨p,hp⟩,λr1 hr1=>⟨ZH hc t0 t1 hbd.1 hlb hbd.2 hx (by omega),λr2 hr2=>?_⟩⟩;obtain rfl:p=r1:=qmk (hp.symm.trans hr1);obtain rfl:p=r2:=qmk (hp.symm.trans hr2);simp
 ·rintro - -;have hv:QT c.attrs lbs2 x=true:=by rw[hc.1];exact Tt hx (by omega)
  have hca:c.attrs.length<=1000:=by rw[hc.1];decide
  simp[h4,h7,h9, -Bool.forall_bool, -Bool.exists_bool];exact⟨hv,hca⟩
end Go.Gv
namespace Go.Gv
open Go.Proofs
def Bl{x:Cond}(h:iZ x=false):x.op≠4/\∀k∈x.kids,iZ k=false:=by
 rw[Dp,Bool.or_eq_false_iff]at h;refine⟨λe=>by simp[e]at h,λk hk=>?_⟩;cases hs:iZ k with
 | false=>rfl
 | true=>
   have:=qmU.2 ⟨k,hk,hs⟩;rw[h.2]at this;cases this
mutual
def uZ:∀x:Cond,iZ x=false->bG x=x
 | .mk op n a v l f ks,h=>by
   have h2:=Bl h;have h4:¬op=4:=h2.1;rw[bG,if_neg (by simp[h4,h]),G8 ks h2.2]
def G8:∀ks:List Cond,(∀k∈ks,iZ k=false)->vd ks=ks
 | [],_=>rfl
 | k::ks,h=>by rw[vd,uZ k (h k (by simp)),G8 ks λk hk=>h k (by simp[hk])]
end
mutual
def Pj:∀x:Cond,aJ (bG x)<=aJ x/\aA (bG x)<=aA x
 | .mk op n a v l f ks=>by
   rw[bG];have:=LQ ks;split
   ·simp only[aJ,cv,aA,eA];omega
   ·simp only[aJ,aA];omega
def LQ:∀ks:List Cond,cv (vd ks)<=cv ks/\eA (vd ks)<=eA ks
 | []=>by simp[vd]
 | k::ks=>by
   have:=Pj k;have:=LQ ks;simp only[vd,cv,eA];omega
end
inductive GL:Nat->Cond->Prop
 | atom (n:Nat) (c:Cond) (h:GA [] c):GL n c
 | any (n:Nat):GL n ⟨1,E0,E0,E0,E0,false, []⟩
 | top (n:Nat) (v:B) (f:Bool) (h:v∈ValsT):GL n ⟨2,E0,E0,v,E0,f, []⟩
 | not (n:Nat) (k:Cond) (h:GL n k):GL (n+1) ⟨6,E0,E0,E0,E0,false, [k]⟩
 | two (n:Nat) (op:Int) (a b:Cond) (ho:op=7\/op=8) (h1:GL n a) (h2:GL n b):GL (n+1) ⟨op,E0,E0,E0,E0,false, [a,b]⟩
def Ul{lb:List B}{c:Cond}(h:GA lb c)(hs:iZ c=false):GA [] c:=by
 cases h with
 | val n v f h1 h2=>exact .val n v f h1 h2
 | feat v h=>exact .feat v h
 | same n l a h1 h2 h3=>exact absurd rfl (Bl hs).1
 | reg n h=>exact .reg n h
 | regk n v h1 h2=>exact .regk n v h1 h2
def Dv{lb:List B} :∀ {n:Nat} {x:Cond},GI lb n x->iZ x=false->GL n x
 | _,_, .atom n c h,hs=> .atom n c (Ul h hs)
 | _,_, .not n k h,hs=> .not n k (Dv h ((Bl hs).2 k (by simp)))
 | _,_, .two n op a b ho h1 h2,hs=> .two n op a b ho (Dv h1 ((Bl hs).2 a (by simp))) (Dv h2 ((Bl hs).2 b (by simp)))
def Pn{x:Cond}(h:x.op=4\/x.op=6/\iZ x=true):bG x=⟨1,E0,E0,E0,E0,false, []⟩:=by rw[vZ,if_pos h];rfl
def Xk{op:Int}{a b:Cond}(ho:op=7\/op=8):bG ⟨op,E0,E0,E0,E0,false, [a,b]⟩=⟨op,E0,E0,E0,E0,false, [bG a,bG b]⟩:=by
 rw[vZ,if_neg (by
  rintro(h|⟨h,_⟩)
  ·rcases ho with rfl|rfl <;> cases h
  ·rcases ho with rfl|rfl <;> cases h)]
 rfl
def Uh{lb:List B} :∀ {n:Nat} {x:Cond},GI lb n x->GL n (bG x)
 | _,_, .atom n c h=>by
   cases hs:iZ c with
   | false=>rw[uZ c hs];exact .atom n c (Ul h hs)
   | true=>
     have h4:c.op=4:=by
      rw[Dp,Aq h]at hs;simpa using hs
     rw[Pn (.inl h4)];exact .any n
 | _,_, .not n k h=>by
   cases hs:iZ ⟨6,E0,E0,E0,E0,false, [k]⟩with
   | false=>rw[uZ _ hs];exact .not n k (Dv h ((Bl hs).2 k (by simp)))
   | true=>rw[Pn (.inr ⟨rfl,hs⟩)];exact .any _
 | _,_, .two n op a b ho h1 h2=>by
   rw[Xk ho];exact .two n op _ _ ho (Uh h1) (Uh h2)
def qdz{lb:List B}{n:Nat}{x:Cond}(h:GC lb n x):GL n (bG x):=by
 cases h with
 | any=>rw[uZ _ rfl];exact .any n
 | top v f h=>rw[uZ _ rfl];exact .top n v f h
 | inner c h=>exact Uh h
def L3{E:Gz}(hE:FC E)(hlb:E.lb=[]):∀ {n m:Nat} {x:Cond},GL n x->n < m->∃y,jN E m x=some y
 | _,m+1,_, .atom n c h,_=>Y0 hE (hlb ▸h)
 | _,m+1,_, .any n,_=>Pv hE (n:=0) .any (by omega)
 | _,m+1,_, .top n v f h,_=>Pv hE (n:=0) (.top v f h) (by omega)
 | _,m+1,_, .not n k h,hm=>by
   obtain⟨y,hy⟩:=L3 (m:=m) hE hlb h (by omega);exact⟨_,TZ hy⟩
 | _,m+1,_, .two n op a b ho h1 h2,hm=>by
   obtain⟨p,hp⟩:=L3 (m:=m) hE hlb h1 (by omega);obtain⟨q,hq⟩:=L3 (m:=m) hE hlb h2 (by omega);rcases ho with rfl|rfl
   ·exact⟨_,T0 hp hq⟩
   ·exact⟨_,YZ hp hq⟩
def Ad:∀ {n m:Nat} {x:Cond},GL n x->n < m->my dA [] m x=true
 | _,m+1,_, .atom n c h,_=>sG (Ji h) (Aq h)
 | _,m+1,_, .any n,_=>EJ (n:=0) .any (by omega)
 | _,m+1,_, .top n v f h,_=>EJ (n:=0) (.top v f h) (by omega)
 | _,m+1,_, .not n k h,hm=>G4 (Ad h (by omega))
 | _,m+1,_, .two n op a b ho h1 h2,hm=>G3 ho (Ad h1 (by omega)) (Ad h2 (by omega))
open Cod (enc dec)
variable {S S0:Nat->Spc}
def Jh:∀ {n m:Nat} {x:Cond},GL n x->n < m->WU dA [] m x
 | _,m+1,_, .atom n c h,_=>EH (.atom 0 _ h) (by omega)
 | _,m+1,_, .any n,_=>NR (n:=0) .any (by omega)
 | _,m+1,_, .top n v f h,_=>NR (n:=0) (.top v f h) (by omega)
 | _,m+1,_, .not n k h,hm=>⟨rfl,xM 6 rfl (by decide),λz hz=>by
    rcases qnf.1 hz with rfl;exact Jh h (by omega)⟩
 | _,m+1,_, .two n op a b ho h1 h2,hm=>⟨by rcases ho with rfl|rfl <;> rfl,by rcases ho with e|e;exact xM 7 e (by decide);exact xM 8 e (by decide),λz hz=>by
    have hz:z∈ [a,b]:=hz;simp only[qmw,qmM,or_false]at hz;rcases hz with rfl|rfl
    ·exact Jh h1 (by omega)
    ·exact Jh h2 (by omega)⟩
def NY(x:Cond)(h:aJ x<=60):(nT [] x).length<=100000:=by
 have h1:=rv (ba [] x) x.kids;have h2:=lR [] x;have h3:=ej x;have h4:nT [] x=gz (ba [] x) x.kids:=by rw[Dt,gU]
 rw[h4];simp only[qnX]at h2;omega
abbrev s_lSel:Spc:=aY (a2 (List Int) (List Int)) (λ_=>True) (enc (X:=Bool)) λ_ y=>y=true
set_option maxHeartbeats 4000000 in
theorem CD(h1:S Dw=s_m_New)(h2:S jl=s_m_Corpus)(h3:S mf=Bo)(h4:S kI=Ee)(h7:S mg=Bq)(h8:S fB=SQ)(h9:S sL=s_rSel)(h10:S sP=NG)(h11:S kO=s_Loose)(h12:S qf=s_rLoose)(h13:S sM=Ec 20)(h14:S jy=s_Labels)(h15:S sO=s_rLabels)(h16:S vh=s_rTextsE):
 av dW dS S (a2 (List Int) (List Int)) (λ_=>True) (enc (X:=Bool)) λ_ y=>y=true:=by
 rintro⟨l,m⟩ -;simp(maxSteps:=3000000) [dW,dS,h1,h2,h3,h4, -Bool.forall_bool, -Bool.exists_bool];intro c hw hk _ L;have hc:=Tq hw hk;have hlb:lbs2.length<=1000:=by decide
 refine⟨hlb,λx hx b6 b7=>?_⟩;have hx:GC lbs2 3 x:=hx;have hlen:c.toks.length<=4096:=hc.2.2.1;have hgl:=qdz hx;have hn:=N9 hx;have hn2:=Pj x;have hE0:∀i:Nat,i < c.toks.length->FC ⟨c,(i:Int), [], []⟩:=λi hi=>⟨hc,by show(0:Int)<=(i:Int);omega,by show(i:Int) < c.toks.length;omega,rfl⟩
 have hP:HG (c,x):=⟨hc.sz,by show aJ x<=60;omega,by show aA x<=60;omega,by
  show QT c.attrs [] (bG x)=true;rw[show c.attrs=dA from hc.1];exact Ts (by omega) (by omega) (Ad hgl (by omega)),λi hi=>L3 (hE0 i hi) rfl hgl (by omega)⟩
 have hPr:OL (c,x):=⟨hc,by show aJ x<=60;omega,by show aA x<=20;omega,by show aJ (bG x)<=60;omega,by show aA (bG x)<=20;omega,by
  show WU c.attrs [] 21 (bG x);rw[show c.attrs=dA from hc.1];exact Jh hgl (by omega),λi hi=>L3 (hE0 i hi) rfl hgl (by omega)⟩
 have k1:aJ x<=60:=by omega
 have k2:aA x<=60:=by omega
 have k3:aA x<=20:=by omega
 have k4:aJ (bG x)<=60:=by omega
 have k5:aA (bG x)<=20:=by omega
 have k6:(zH c x).length<=100000:=by have:=Ea c x c.toks.length;unfold zH;omega
 have k7:=NY x k1;have k8:wN (zH c x) (zH c x)=true:=decide_eq_true rfl;simp(maxSteps:=2000000) [h7,h8,h9,h10,h11,h12,h13,h14,h15,h16,hP,hPr,k1,k2,k3,k4,k5,k6,k7,k8, -Bool.forall_bool, -Bool.exists_bool]
end Go.Gv
namespace Go.Gv
open Go.Proofs Cod
variable {dq:Prop}
def Yd{p:Cond}(h:aA p<=0):False:=by rw[tD]at h;omega
def wU:∀n,Tri dq Tryz.prog kD (SC n).pt
 | 0=>nZ λx h=>Yd h
 | n+1=>ac (ag (aa (wU n) ae)) F8 (λ_=>qma rfl) (H8 n rfl)
def J0:Tri dq Tryz.prog kD s_rRefA.pt:=Dk wU (Do λx h=>h)
def AC:∀n,Tri dq Tryz.prog mB (Ln n).pt
 | 0=>nZ λx h=>Yd h.1
 | n+1=>ac (ag (aa J0 (aa (AC n) ae))) IS (λ_=>qma rfl) (Kx n rfl rfl)
def MN:Tri dq Tryz.prog mB s_rlooseA.pt:=Dk AC (Do λx h=>h)
def Cm:Tri dq Tryz.prog qf s_rLoose.pt:=ac (ag (aa qj (aa MN ae))) IZ (λ_=>qma rfl) (KH rfl rfl)
def Cl:∀n,Tri dq Tryz.prog sM (Ec n).pt
 | 0=>nZ λx h=>Yd h.2.1
 | n+1=>ac (ag (aa (Cl n) ae)) LJ (λ_=>qma rfl) (KF n rfl)
def MQ:Tri dq Tryz.prog vh s_rTextsE.pt:=ac (ag ae) IW (λ_=>qma rfl) (KD)
def J1:Tri dq Tryz.prog sL s_rSel.pt:=ac (ag (aa qj (aa Cm (aa vH (aa (tB 21) ae))))) F9 (λ_=>qma rfl) (Ia rfl rfl rfl rfl)
def Hz:Tri dq Tryz.prog mC s_rInE.pt:=ac (ag ae) G1 (λ_=>qma rfl) (Qj)
def HA:Tri dq Tryz.prog mC s_rIn2.pt:=Zo Hz (xE Hz rfl λ_=>Un _)
def Q8:Tri dq Tryz.prog fA (Ju 0).pt:=by
 rintro O tp w vs ds H d K hO htl hsat hlen hargs ⟨id,v,l,a,x,rfl,hd,hid,hp,hK⟩;exact(Yd hp.1).elim
def wV:∀n,Tri dq Tryz.prog fA (Ju n).pt
 | 0=>Q8
 | n+1=>Nq (ag (aa HA (aa (wV n) ae))) wP (qma rfl) (H9 n rfl rfl)
def Gs:Tri dq Tryz.prog fA f_rlab.pt:=Qx (ag (aa HA (aa (wV 19) ae))) wP (λ_=>qma rfl) (FT 19 rfl rfl)
def J2:Tri dq Tryz.prog sO s_rLabels.pt:=ac (ag (aa qj (aa Gs ae))) Ga (λ_=>qma rfl) (Ib rfl rfl)
def t_law22_Holds:Tri dq Tryz.prog kJ s_lHol.pt:=ac (ag (aa OY (aa tH (aa wW (aa vI (aa Gt (aa AK (aa wX (aa c_r22_Holds (aa iq ae)))))))))) rk (λ_=>qma rfl) (FY rfl rfl rfl rfl rfl rfl rfl rfl rfl)
def t_law22_Selects:Tri dq Tryz.prog je s_lSel.pt:=ac (ag (aa OY (aa tH (aa wW (aa vI (aa wX (aa pG (aa J1 (aa Fp (aa Yf (aa Cm (aa (Cl 20) (aa U5 (aa J2 (aa MQ ae))))))))))))))) pQ (λ_=>qma rfl) (CD rfl rfl rfl rfl rfl rfl rfl rfl rfl rfl rfl rfl rfl rfl)
end Go.Gv
#print axioms Go.Gv.t_law22_Holds
#print axioms Go.Gv.t_law22_Selects
namespace Go.Gv
open Go.ChangeShapes Go.WideShapes Go.ChangeAt Go.RowKit
section
variable {H:Type}{ec:TypeId×Value->H}{P:Program}{w:World}{base:Nat}{spare:Nat->Bool}{held:Bool}{tp I:Nat->Prop}
def OpR(tp I:Nat->Prop)(w:World)(cs:List Value)(d:D):Prop:=cs.length=d.cells.length/\∀ (k:Nat) (y:Value) (c:D),cs[k]? =some y->d.cells[k]? =some c->y.oneCell'=true/\R tp I w y c
def OpR.one{y:Value}{d:D}(h:OpR tp I w [y] d)(hd:d.cells=[d]):R tp I w y d:=(h.2 0 y d rfl (by rw[hd];rfl)).2
def Tm{t:TypeId}{fuel:Nat}{cs:List Value}{x:DataW H×List MemPlace}(ht:P.underlying t=some (.int .i64))(h:DataW.trod ec P w base spare held fuel t cs=some x):∃n:Int,OpR tp I w cs (Cod.enc n):=by
 obtain⟨n,rfl,_,_⟩:=DataW.trod_int ht h;refine⟨n,rfl,λk y c h1 h2=>?_⟩;cases k with
 | zero=>cases h1;cases h2;exact⟨rfl, .v _ rfl (λs h=>by cases h)⟩
 | succ k=>simp at h1
theorem LF{Y:Type}[Cod Y]{t e:TypeId}(ht:P.underlying t=some (.slice e))(hc:P.cellsOf e=Cod.wd Y)(h0:0 < Cod.wd Y)
 (hel:∀ (n:Nat) (cs:List Value) (x:DataW H×List MemPlace),DataW.trod ec P w base spare held n e cs=some x->∃y:Y,OpR tp I w cs (Cod.enc y)) (hI:∀b,b < w.heap.size->I b)
 {fuel:Nat} {cs:List Value} {x:DataW H×List MemPlace} (h:DataW.trod ec P w base spare held fuel t cs=some x) (h1w:Cod.wd Y=1:=by rfl):∃l:List Y,OpR tp I w cs (Cod.enc l):=by
 have one:∀ (v:Value) (l:List Y),v.oneCell'=true->R tp I w v (.list (Cod.wd Y) (l.map Cod.enc))->OpR tp I w [v] (Cod.enc l):=λv l h1 h2=>⟨rfl,λk y c e1 e2=>by
  cases k with
  | zero=>cases e1;cases e2;exact⟨h1,h2⟩
  | succ k=>simp at e1⟩
 rcases DataW.trod_slice ht h with⟨rfl,_⟩|⟨a,len,cap,elems,rest,n,_,rfl,_,_,hl,hm,hlen,hel',_⟩
 ·exact⟨[],one _ [] rfl (.nolist none 0 _)⟩
 ·by_cases hz:len=0
  ·subst hz;exact⟨[],one _ [] rfl (.nolist (some a) cap _)⟩
  ·have each:∀i:_root_.Fin len,∃p:List Value×Y,w.cells? base (a.add (i*P.cellsOf e)) (P.cellsOf e)=some p.1/\OpR tp I w p.1 (Cod.enc p.2):=λi=>by
    have h1:=hel' i i.2;rw[qmd (by omega)]at h1;obtain⟨cs',h2,h3⟩:=ql9.1 h1;obtain⟨y,hy⟩:=hel n cs' _ h3;exact⟨(cs',y),h2,hy⟩
   obtain⟨g,hg⟩:=qnP each;obtain⟨b,off,spot⟩:=a;have cellAt:∀ (i:_root_.Fin len) (j:Nat),j < Cod.wd Y->∃v,(g i).1[j]? =some v/\w.cell? ((Addr.add ⟨b,off,spot⟩ (i*Cod.wd Y)).add j)=some v:=λi j hj=>by
    have h1:=World.cells?_some (hg i).1;have h2:=h1.2.2 j (by rw[hc];exact hj);have h3:j < (g i).1.length:=by rw[h1.2.1,hc];exact hj
    refine⟨(g i).1[j],qmd h3,?_⟩;rw[hc]at h2;rw[h2,qmd h3]
   have hs:spot=none:=by
    obtain⟨v,_,h2⟩:=cellAt ⟨0,by omega⟩ 0 h0;have:=World.cell?_spot h2;simpa [Addr.add]using this
   subst hs;have hadd:∀ (o n:Nat),Addr.add ⟨b,o,none⟩ n=⟨b,o+n,none⟩:=λo n=>by
    unfold Addr.add;split
    ·rename_i e;subst e;rfl
    ·rfl
   have cellAt':∀ (i:_root_.Fin len) (j:Nat),j < Cod.wd Y->∃v,(g i).1[j]? =some v/\w.cell? ⟨b,off+ (i*Cod.wd Y+j),none⟩=some v:=λi j hj=>by
    obtain⟨v,h1,h2⟩:=cellAt i j hj;refine⟨v,h1,?_⟩;rw[hadd,hadd]at h2;rw[<-qnq];exact h2
   have hb:b < w.heap.size:=by
    obtain⟨v,_,h2⟩:=cellAt' ⟨0,by omega⟩ 0 h0;unfold World.cell? at h2;by_cases hlt:b < w.heap.size
    ·exact hlt
    ·simp only[qnS (Nat.le_of_not_lt hlt)]at h2;cases h2
   let es:List Y:=List.ofFn λi=>(g i).2
   have hesl:es.length=len:=by simp[es]
   have hesi:∀i:_root_.Fin len,(es.map Cod.enc)[(i:Nat)]? =some (Cod.enc (g i).2):=λi=>by
    rw[qmv];have:es[(i:Nat)]? =some (g i).2:=by simp[es]
    rw[this];rfl
   have hw:∀d∈es.map Cod.enc,d.kn=true/\d.cells.length=Cod.wd Y:=λd hd=>by
    obtain⟨y,_,rfl⟩:=qmo.1 hd;exact⟨Cod.kn y,Cod.wid y⟩
   have flatAt:∀ (k:Nat) (c:D),(aZ (es.map Cod.enc))[k]? =some c->∃v,w.cell? ⟨b,off+k,none⟩=some v/\v.oneCell'=true/\R tp I w v c:=λk c hk=>by
    have hkl:=(qmb.1 hk).1;rw[aI (λd hd=>(hw d hd).2),qmN,hesl]at hkl;have hdm:k=(k/Cod.wd Y) *Cod.wd Y+k % Cod.wd Y:=by have:=qnM k (Cod.wd Y);rw[qnG]at this;omega
    have hmod:k % Cod.wd Y < Cod.wd Y:=qnI _ h0;have hq:k/Cod.wd Y < len:=qoi (by rw[qnG];exact hkl);have g1:=eR (es:=es.map Cod.enc) (λd hd=>(hw d hd).2) (i:=k/Cod.wd Y) hmod;rw[<-hdm,hk,hesi ⟨k/Cod.wd Y,hq⟩]at g1;simp only[qmx]at g1;obtain⟨v,h1,h2⟩:=cellAt' ⟨k/Cod.wd Y,hq⟩ (k % Cod.wd Y) hmod;simp only at h2;rw[<-hdm]at h2;exact⟨v,h2,(hg ⟨k/Cod.wd Y,hq⟩).2.2 _ v c h1 g1.symm⟩
   have hR:R tp I w (.slice (some ⟨b,off,none⟩) len cap) (.list (Cod.wd Y) (es.map Cod.enc)):=by
    have hll:(es.map (Cod.enc (X:=Y))).length=len:=by simp[hesl]
    rw[<-hll];have rd:∀ (k:Nat) (c:D),(aZ (es.map Cod.enc))[k]? =some c->w.cell? ⟨b,off+k,none⟩=some ((w.cell? ⟨b,off+k,none⟩).getD Go.undef):=λk c hk=>by
     obtain⟨v,h1,_⟩:=flatAt k c hk;rw[h1];rfl
    refine .list b off cap _ (es.map Cod.enc) (λk=>(w.cell? ⟨b,off+k,none⟩).getD Go.undef) (hI b hb) (by rw[hll];exact hl) hm (λh=>absurd h1w h) hw rd (λk c hk=>?_) (λk c hk=>?_)
    ·obtain⟨v,h1,h2,_⟩:=flatAt k c hk;rw[h1];exact h2
    ·obtain⟨v,h1,_,h2⟩:=flatAt k c hk;rw[h1];exact h2
   exact⟨es,one _ es rfl hR⟩
end
variable {dq:Prop}
section
variable {H:Type}{ec:TypeId×Value->H}{P:Program}{w:World}{base:Nat}{spare:Nat->Bool}{held:Bool}{tp I:Nat->Prop}
end
abbrev qfC(w:World):Nat->Prop:=aM (λ_=>False) (λ_=>False) cw w
def TD{w:World}{b:Nat}(h:b < w.heap.size):qfC w b:=⟨h,λh=>h,λh=>h,λ⟨i,r,h,_⟩=>by simp[cw]at h⟩
end Go.Gv
namespace Go.Gv
open Go.ChangeShapes Go.WideShapes Go.ChangeAt Go.RowKit
section
variable {H:Type}{ec:TypeId×Value->H}{P:Program}{w:World}{base:Nat}{spare:Nat->Bool}{held:Bool}{tp I:Nat->Prop}
end
open Cod (enc dec)
instance:Cod UInt8 where
 wd:=1
 enc n:= .v (.int .u8 n.toNat)
 dec| .v (.int .u8 n)=>if 0<=n/\n<=255 then some (UInt8.ofNat n.toNat)else none|_=>none
 kn _:=rfl
 wid _:=rfl
 dec_enc n:=by
  have:=n.toNat_lt;simp only;rw[if_pos (by omega)];congr 1;rw[qn7,UInt8.ofNat_toNat]
 le d x h:=by
  split at h
  ·split at h
   ·rename_i n hn;cases h;have e:((UInt8.ofNat n.toNat).toNat:Int)=n:=by
     rw[qnC];omega
    show FrzTo cw _ (.v (.int .u8 ((UInt8.ofNat n.toNat).toNat:Int)));rw[e];exact .same _
   ·cases h
  ·cases h
variable {dq:Prop}
section
variable {H:Type}{ec:TypeId×Value->H}{P:Program}{w:World}{base:Nat}{spare:Nat->Bool}{held:Bool}{tp I:Nat->Prop}
end
theorem NX{P:Program}{f:Nat}{X:Type}{A:eZ X}{p:X->Prop}{q:X->Bool->Prop}(h:Tri dq P f (aY A p (Cod.enc (X:=Bool)) q).pt)(hq:∀x y,q x y->y=true){w:World}{vs:List Value}{ds:List D}{x:X}(hp:p x)(hlen:vs.length=ds.length)
 (hR:∀ (k:Nat) (y:Value) (c:D),vs[k]? =some y->ds[k]? =some c->R (λ_=>False) (qfC w) w y c) (hdec:A.dec ds=some x) (hG:GlW (λ_=>False) (λ_=>False) w):
 Calls P f vs.toArray w λe w'=>e= .returned (.bool true)/\Below w.heap.size w w':=by
 obtain⟨_,hc⟩:=h (λ_=>False) (λ_=>False) w vs ds cw 0 (λr H'=>r= .v (.bool true)) (λb h=>h.elim) ⟨λb h=>h.elim,hG.mono (λ_ h=>h) (λb ⟨i,r,h,_⟩=>by simp[cw]at h)⟩
  ⟨λi j r s b h=>by simp[cw]at h,λi r b h=>by simp[cw]at h,λi r h=>by simp[cw]at h⟩ hlen hR
  (by rw[lu,hdec];exact⟨hp,λy hy=>by rw[hq x y hy];rfl⟩)
 refine hc.mono ?_;rintro e w' ⟨v,r,H',tp',rfl,hr,_,_,_,hs,_,_,hv⟩;subst hr;have hv':=hv.inv_v;subst hv';exact⟨rfl,hs.os,hs.tape,hs.output,hs.size,λk hk=>hs.same k hk (λ⟨i,r,h,_⟩=>by simp[cw]at h) (λh=>h)⟩
end Go.Gv
