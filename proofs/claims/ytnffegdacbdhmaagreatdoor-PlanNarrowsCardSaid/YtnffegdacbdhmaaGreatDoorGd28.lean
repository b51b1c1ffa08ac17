/- Asm32 -/
import Derived.Test.YtnffegdacbdhmaaGreatDoorGd27
set_option linter.all false
set_option maxRecDepth 100000
namespace Go.Gv
open Go.Proofs Cod
variable {dq:Prop}
def qnp{p:Cond}(h:dm p<=0):False:=by rw[Ha]at h;omega
def Je:TQ dq kY xR:=
 ac (ag ae) Gb (QV)
def Ye:TQ dq uR FW:=
 ac (ag (aa Je ae)) Jy (TS rfl)
def J6:TQ dq cq uc:=
 ac (ag (aa Je (aa Ye ae))) xZ (Hx rfl rfl)
def Mm:∀n,TQ dq uM (ZY n)
 | 0=>bC λx h=>qnp h
 |n+1=>bY (ag (aa (Mm n) ae)) VA (λ_=>qz0 rfl) (XT n rfl)
def Yd:TQ dq uM ZZ:=
 dw (λn=>Mm n) (fb (λx _=>⟨dm x.1,qz2 _⟩))
def Ul:TQ dq BP Jm:=
 ac (ag (aa Yd ae)) R3 (TH rfl)
def F0:∀n,TQ dq pb (UV n)
 | 0=>bC λx h=>YQ h.1
 |n+1=>bY (ag (aa Ul (aa (F0 n) ae))) ON (λ_=>qz0 rfl) (QN n rfl rfl)
def Q9:TQ dq pb Pz:=
 dw (λn=>F0 n) (fb (λx h=>⟨db x.1,qz2 _,h⟩))
def Jt:∀n,TQ dq rL (Z2 n)
 | 0=>bC λx h=>YQ h
 |n+1=>bY (ag (aa J6 (aa (Jt n) ae))) R5 (λ_=>qz0 rfl) (TI n rfl rfl)
def Um:TQ dq rL UX:=
 dw (λn=>Jt n) (fb (λx _=>⟨db x,qz2 _⟩))
def Dn:∀n,TQ dq mK (PB n)
 | 0=>bC λx h=>YQ h
 |n+1=>bY (ag (aa (Dn n) ae)) Mu (λ_=>qz0 rfl) (Oh n rfl)
def OF:TQ dq mK L3:=
 dw (λn=>Dn n) (fb (λx _=>⟨db x,qz2 _⟩))
def mU:TQ dq dE cX:=
 ac (ag (aa Q9 (aa Um (aa OF ae)))) H6 (JO rfl rfl rfl)
def Ml:∀n,TQ dq uL (Ry n)
 | 0=>bC λx h=>YQ h.1
 |n+1=>bY (ag (aa (Ml n) ae)) Vy (λ_=>qz0 rfl) (XQ n rfl)
def Yb:TQ dq uL Cw:=
 dw (λn=>Ml n) (fb (λx h=>⟨db x,qz2 _,h⟩))
def Js:∀n,TQ dq iz (K0 n)
 | 0=>bC λx h=>YQ h.1
 |n+1=>bY (ag (aa (Js n) ae)) R2 (λ_=>qz0 rfl) (TG n rfl)
def Uk:TQ dq iz FM:=
 dw (λn=>Js n) (fb (λx h=>⟨db x,qz2 _,h⟩))
def F1:∀n,TQ dq iT (Wc n)
 | 0=>rA λd ds H K ⟨id,v,l,a,x,h1,h2,h3,h4,h5⟩=>YQ h4.1
 |n+1=>yB (ag (aa (F1 n) ae)) Dr (by decide) (QO n rfl)
def A4:Tri dq Tryz.prog iT i_leavesA.pt:=dw (λn=>F1 n) λd ds H K ⟨id,v,l,a,x,h1,h2,h3,h4,h5⟩=>⟨db x,id,v,l,a,x,h1,h2,h3,⟨qz2 _,h4⟩,h5⟩
def Ra:Tri dq Tryz.prog iT s_leaves.pt:=LD (Cv (ag (aa A4 ae)) Dr (λ_=>qz0 rfl) (Oi rfl)) A4
def Rb:TQ dq tH FR:=
 ac (ag (aa mU (aa Ra ae))) OO (QP rfl rfl)
def Yc:TQ dq zD D7:=
 ac (ag (aa mU (aa Yb ae))) Vz (XR rfl rfl)
def Un:TQ dq rM Cz:=
 ac (ag (aa mU (aa Uk ae))) R6 (TJ rfl rfl)
def Re:TQ dq tJ FS:=
 ac (ag (aa wt (aa yz ae))) OZ (Q0 rfl rfl)
def X9:TQ dq EH LZ:=
 ac (ag ae) Vw (XO)
def Ya:TQ dq zC L0:=
 ac (ag ae) Vx (XP)
def Q8:TQ dq tG FN:=
 ac (ag (aa Ya ae)) OM (QL rfl)
def Jr:∀n,TQ dq iy (Jl n)
 | 0=>bC λx h=>YQ h.1.1
 |n+1=>bY (ag (aa Q8 (aa Un (aa Rb (aa (Jr n) ae))))) RZ (λ_=>qz0 rfl) (TF n rfl rfl rfl rfl)
def Ui:TQ dq iy FP:=
 dw (λn=>Jr n) (fb (λx h=>h))
def Uj:TQ dq BO FQ:=
 ac (ag (aa mU (aa Yc (aa Ui ae)))) R1 (QM rfl rfl rfl)
def xJ:TQ dq dU lF:=
 ac (ag ae) Gg (HD)
def A3:TQ dq gd Dm:=
 D1 (ag ae) AG (λ_=>qz0 rfl) (AW)
def xF:TQ dq eM xS:=
 D1 (ag ae) wM (λ_=>qz0 rfl) (xy)
def DY:TQ dq fA mY:=
 ac (ag (aa wl (aa G9 ae))) ok_estimate_compare (DQ rfl rfl)
theorem wq:Tri dq Tryz.prog gC s_SortFunc_Source.pt:=by
 have h:=Rg (dq:=dq) (hTb:=rfl) (cf:=rQ) (el:=aC) Tryz.sortSource rfl qyD 2 (λ_=>rfl) (λ_=>rfl) (λx v hv=>by simp[qyD]at hv;rcases hv with rfl|rfl<;>exact⟨rfl,λs h=>by cases h⟩) Tryz.isAgg50 Tryz.sizeOf50
  qlH (λx y h1 h2=>by rw[zw]at h1 h2;simp at h1 h2;rcases K6 x y with h|h|h<;>first|exact h|exact absurd h h1|exact absurd h h2) DY ok_estimate_compare.enter (iu Tryz.func127 (by kernel_rfl) rfl)
 refine Ut h (λx l hp=>hp) (λx l r hp hq=>?_);have hq:r=l.mergeSort λx y=>!(ltOf rQ) y x:=hq
 subst hq;refine⟨by simp,λx=>by simp[List.mem_mergeSort],?_⟩;have:=List.pairwise_mergeSort (le:=λx y=>!(ltOf rQ) y x) (λa b c h1 h2=>by simp only[zw]at*;simp at*;unfold AP at*;omega) (λa b=>by simp only[zw];simp;unfold AP;omega) l;refine qA1.2 λi j hi hj hij=>?_
 have h:=qA1.1 this i j hi hj hij;generalize (l.mergeSort λx y=>!(ltOf rQ) y x)[i]=a at h ⊢;generalize (l.mergeSort λx y=>!(ltOf rQ) y x)[j]=b at h ⊢;rw[zw]at h;simpa using h
def Fx:Tri dq Tryz.prog oW s_Sort_int.pt:=Ur Tryz.sortInt rfl (iu Tryz.func79 (by kernel_rfl) rfl)
def HM:TQ dq ib qc:=
 ac (ag (aa Dh (aa xJ (aa Fx (aa A3 ae))))) Gf (HC rfl rfl rfl rfl)
def xV:∀n,TQ dq aM (K1 n)
 | 0=>rA λd ds H K ⟨id,b,x,z,ds',h1,h2,h3,h4,h5,hp,h7⟩=>YQ hp.1.1
 |n+1=>D2 (by decide) (S:=Jh [(gE,Cz),(dU,lF),(ib,qc),(aM,K1 n)]) (ag (aa Dh (aa xJ (aa HM (aa (xV n) ae))))) wO (λ_=>qz0 rfl) (HB n rfl rfl rfl rfl)
def xK:Tri dq Tryz.prog aM s_visitA.pt:=dw (λn=>xV n) λd ds H K ⟨id,b,x,z,ds',h1,h2,h3,h4,h5,⟨n,hp⟩,h7⟩=>⟨n,id,b,x,z,ds',h1,h2,h3,h4,h5,hp,h7⟩
def xL:TQ dq lN qd:=
 ac (ag (aa Re (aa xK (aa wq (aa xF ae))))) Gh (HF rfl rfl rfl rfl)
end Go.Gv
namespace Go.Gv
open Go.Proofs
open Cod (enc dec)
variable {dq:Prop}
section
variable {X Y Z:Type}
variable {P:Program}{S:Nat->Spc}{f:Nat}{im:List Nat}{cc:CC}{rs:List ak}{N:Nat}
end
end Go.Gv
namespace Go.Gv
open Go.Proofs
open Cod (enc dec)
variable {S S0:Nat->Spc}
end Go.Gv
namespace Go.Gv
open Go.Proofs
def HT{x:Cond}(h:tB x=false):x.op≠4/\∀k∈x.kids,tB k=false:=by
 rw[Ru,Bool.or_eq_false_iff]at h;refine⟨λe=>by simp[e]at h,λk hk=>?_⟩;cases hs:tB k with
 |false=>rfl
 | true=>
   have:=qBa.2 ⟨k,hk,hs⟩;rw[h.2]at this;cases this
mutual
def BJ:∀x:Cond,tB x=false->jF x=x
 | .mk op n a v l f ks,h=>by
   have h2:=HT h;have h4:¬op=4:=h2.1;rw[jF,if_neg (by simp[h4,h]),P8 ks h2.2]
def P8:∀ks:List Cond,(∀k∈ks,tB k=false)->BK ks=ks
 | [],_=>rfl
 |k::ks,h=>by rw[BK,BJ k (h k (by simp)),P8 ks λk hk=>h k (by simp[hk])]
end
mutual
def qax:∀x:Cond,gL (jF x)<=gL x/\dm (jF x)<=dm x
 | .mk op n a v l f ks=>by
   rw[jF];have:=VH ks;split
   ·simp only[gL,eX,dm,iA];omega
   ·simp only[gL,dm];omega
def VH:∀ks:List Cond,eX (BK ks)<=eX ks/\iA (BK ks)<=iA ks
 | []=>by simp[BK]
 | k::ks=>by
   have:=qax k;have:=VH ks;simp only[BK,eX,iA];omega
end
inductive GL:Nat->Cond->Prop
 |atom (n:Nat) (c:Cond) (h:GA [] c):GL n c
 |any (n:Nat):GL n ⟨1,E0,E0,E0,E0,false, []⟩
 |top (n:Nat) (v:B) (f:Bool) (h:v∈ValsT):GL n ⟨2,E0,E0,v,E0,f, []⟩
 |not (n:Nat) (k:Cond) (h:GL n k):GL (n+1) ⟨6,E0,E0,E0,E0,false, [k]⟩
 |two (n:Nat) (op:Int) (a b:Cond) (ho:op=7\/op=8) (h1:GL n a) (h2:GL n b):GL (n+1) ⟨op,E0,E0,E0,E0,false, [a,b]⟩
def qga{lb:List B}{c:Cond}(h:GA lb c)(hs:tB c=false):GA [] c:=by
 cases h with
 |val n v f h1 h2=>exact .val n v f h1 h2
 |feat v h=>exact .feat v h
 |same n l a h1 h2 h3=>exact absurd rfl (HT hs).1
 |reg n h=>exact .reg n h
 |regk n v h1 h2=>exact .regk n v h1 h2
def K9{lb:List B} :∀{n:Nat} {x:Cond},GI lb n x->tB x=false->GL n x
 | _,_, .atom n c h,hs=> .atom n c (qga h hs)
 | _,_, .not n k h,hs=> .not n k (K9 h ((HT hs).2 k (by simp)))
 | _,_, .two n op a b ho h1 h2,hs=> .two n op a b ho (K9 h1 ((HT hs).2 a (by simp))) (K9 h2 ((HT hs).2 b (by simp)))
def qaD{x:Cond}(h:x.op=4\/x.op=6/\tB x=true):jF x=⟨1,E0,E0,E0,E0,false, []⟩:=by rw[K7,if_pos h];rfl
def qjl{op:Int}{a b:Cond}(ho:op=7\/op=8):jF ⟨op,E0,E0,E0,E0,false, [a,b]⟩=⟨op,E0,E0,E0,E0,false, [jF a,jF b]⟩:=by
 rw[K7,if_neg (by
  rintro(h|⟨h,_⟩)
  ·rcases ho with rfl|rfl<;>cases h
  ·rcases ho with rfl|rfl<;>cases h)]
 rfl
def qf5{lb:List B} :∀{n:Nat} {x:Cond},GI lb n x->GL n (jF x)
 | _,_, .atom n c h=>by
   cases hs:tB c with
   |false=>rw[BJ c hs];exact .atom n c (qga h hs)
   | true=>
     have h4:c.op=4:=by
      rw[Ru,zz h]at hs;simpa using hs
     rw[qaD (.inl h4)];exact .any n
 | _,_, .not n k h=>by
   cases hs:tB ⟨6,E0,E0,E0,E0,false, [k]⟩with
   |false=>rw[BJ _ hs];exact .not n k (K9 h ((HT hs).2 k (by simp)))
   |true=>rw[qaD (.inr ⟨rfl,hs⟩)];exact .any _
 | _,_, .two n op a b ho h1 h2=>by
   rw[qjl ho];exact .two n op _ _ ho (qf5 h1) (qf5 h2)
def qp7{lb:List B}{n:Nat}{x:Cond}(h:GC lb n x):GL n (jF x):=by
 cases h with
 |any=>rw[BJ _ rfl];exact .any n
 |top v f h=>rw[BJ _ rfl];exact .top n v f h
 |inner c h=>exact qf5 h
def qaM{E:Pj}(hE:XJ E)(hlb:E.lb=[]):∀{n m:Nat} {x:Cond},GL n x->n<m->∃y,vI E m x=some y
 | _,m+1,_, .atom n c h,_=>qk1 hE (hlb ▸h)
 | _,m+1,_, .any n,_=>qfT hE (n:=0) .any (by omega)
 | _,m+1,_, .top n v f h,_=>qfT hE (n:=0) (.top v f h) (by omega)
 | _,m+1,_, .not n k h,hm=>by
   obtain⟨y,hy⟩:=qaM (m:=m) hE hlb h (by omega);exact⟨_,qfS hy⟩
 | _,m+1,_, .two n op a b ho h1 h2,hm=>by
   obtain⟨p,hp⟩:=qaM (m:=m) hE hlb h1 (by omega);obtain⟨q,hq⟩:=qaM (m:=m) hE hlb h2 (by omega);rcases ho with rfl|rfl
   ·exact⟨_,qfU hp hq⟩
   ·exact⟨_,qk0 hp hq⟩
def Gm:∀{n m:Nat} {x:Cond},GL n x->n<m->rH gJ [] m x=true
 | _,m+1,_, .atom n c h,_=>zq (qaw h) (zz h)
 | _,m+1,_, .any n,_=>MN (n:=0) .any (by omega)
 | _,m+1,_, .top n v f h,_=>MN (n:=0) (.top v f h) (by omega)
 | _,m+1,_, .not n k h,hm=>P1 (Gm h (by omega))
 | _,m+1,_, .two n op a b ho h1 h2,hm=>P0 ho (Gm h1 (by omega)) (Gm h2 (by omega))
open Cod (enc dec)
variable {S S0:Nat->Spc}
def qeb{c:Corpus}(hc:OkCorp c){lb:List B}{n:Nat}{x:Cond}(hx:GC lb n x)(hn:n<=3):Hh (c,x):=by
 have hgl:=qp7 hx;have hn1:=qf9 hx;have hn2:=qax x;have h3:2^ (n+1)<=2^4:=Nat.pow_le_pow_right (by decide) (by omega);have hE0:∀i:Nat,i<c.toks.length->XJ ⟨c,(i:Int), [], []⟩:=λi hi=>⟨hc,by show(0:Int)<=(i:Int);omega,by show(i:Int)<c.toks.length;omega,rfl⟩
 exact⟨hc.sz,by show gL x<=60;omega,by show dm x<=60;omega,by
  show qhW c.attrs [] (jF x)=true;rw[show c.attrs=gJ from hc.1];exact qfc (by omega) (by omega) (Gm hgl (by omega)),λi hi=>qaM (hE0 i hi) rfl hgl (by omega)⟩
def NR{n:Nat}{c:Corpus}{q:Qry}(hc:qbr c)(hq:GQ n q)(hn:n<=5):wo qdf c q/\jL q.pat<=1000:=by
 have hM:=qfA hc hq hn;obtain⟨lb,hl,hw⟩:=hq.lab;have h1:=qlm n q.pat hw;have h2:2^n<=32:=by
  rcases n with _|_|_|_|_|_|n
  all_goals first|decide|omega
 refine⟨⟨hM.v,hM.v.pat,hM.v.size,⟨hM.v.num,by omega⟩,⟨?_,λx hx=>(hM.v.lv x hx).2⟩,by have:=hc.few;omega,λx hx=>qeb hc.ok (hq.cond x hx) (by decide)⟩,by omega⟩;have:=qx q.pat;have:=hM.v.num;simp;omega
end Go.Gv
namespace Go.Gv
namespace X
abbrev VL:=List (Value×Nat)
abbrev nm(n:Nat):Value:= .int .i64 n
inductive Rep (ρ:VL):D->D->Prop
 |any (d:D):Rep ρ .any d
 |undef:Rep ρ .undef .undef
 |v (x:Value):Rep ρ (.v x) (.v x)
 |agg (cs ds:List D) (hl:cs.length=ds.length) (h:∀(k:Nat) (c d:D),cs[k]? =some c->ds[k]? =some d->Rep ρ c d):Rep ρ (.agg cs) (.agg ds)
 |tup (cs ds:List D) (hl:cs.length=ds.length) (h:∀(k:Nat) (c d:D),cs[k]? =some c->ds[k]? =some d->Rep ρ c d):Rep ρ (.tup cs) (.tup ds)
 |list (n:Nat) (cs ds:List D) (hl:cs.length=ds.length) (h:∀(k:Nat) (c d:D),cs[k]? =some c->ds[k]? =some d->Rep ρ c d):Rep ρ (.list n cs) (.list n ds)
 |cptr (cs ds:List D) (off:Nat) (hl:cs.length=ds.length) (h:∀(k:Nat) (c d:D),cs[k]? =some c->ds[k]? =some d->Rep ρ c d):Rep ρ (.cptr cs off) (.cptr ds off)
 |clo (f:Nat) (cs ds:List D) (hl:cs.length=ds.length) (h:∀(k:Nat) (c d:D),cs[k]? =some c->ds[k]? =some d->Rep ρ c d):Rep ρ (.clo f cs) (.clo f ds)
 |own (id n:Nat) (x:Value) (b:Nat) (h:ρ[n]? =some (x,b)):Rep ρ (.own id (nm n)) (.own id x)
 |bptr (id n off:Nat) (x:Value) (b:Nat) (h:ρ[n]? =some (x,b)):Rep ρ (.bptr id n off) (.bptr id b off)
 |eptr (id n w i off:Nat) (x:Value) (b:Nat) (h:ρ[n]? =some (x,b)):Rep ρ (.eptr id (nm n) w i off) (.eptr id x w i off)
 |sub (id n w lo hi:Nat) (x:Value) (b:Nat) (h:ρ[n]? =some (x,b)):Rep ρ (.sub id (nm n) w lo hi) (.sub id x w lo hi)
def RepL(ρ:VL)(cs ds:List D):Prop:=cs.length=ds.length/\∀(k:Nat) (c d:D),cs[k]? =some c->ds[k]? =some d->Rep ρ c d
inductive RepR (ρ:VL):Res->Res->Prop
 |box (n:Nat) (cs ds:List D) (x:Value) (b:Nat) (h:ρ[n]? =some (x,b)) (hc:RepL ρ cs ds):RepR ρ (.box n cs) (.box b ds)
 |row (n el w:Nat) (cs ds:List D) (x:Value) (b:Nat) (h:ρ[n]? =some (x,b)) (hc:RepL ρ cs ds):RepR ρ (.row (nm n) el w cs) (.row x el w ds)
 |iter (n:Nat) (s:ByteArray) (p:Nat) (x:Value) (b:Nat) (h:ρ[n]? =some (x,b)):RepR ρ (.iter n s p) (.iter b s p)
theorem Rep.mono{ρ ρ':VL}(hp:ρ <+:ρ'){c d:D}(h:Rep ρ c d):Rep ρ' c d:=by
 have up:∀{n:Nat} {y:Value×Nat},ρ[n]? =some y->ρ'[n]? =some y:=λ{n y} h=>by
  obtain⟨l,rfl⟩:=hp;rw[qAe (qzV.1 h).1];exact h
 induction h with
 |any d=>exact .any d
 |undef=>exact .undef
 |v x=>exact .v x
 |agg cs ds hl _ ih=>exact .agg cs ds hl ih
 |tup cs ds hl _ ih=>exact .tup cs ds hl ih
 |list n cs ds hl _ ih=>exact .list n cs ds hl ih
 |cptr cs ds off hl _ ih=>exact .cptr cs ds off hl ih
 |clo f cs ds hl _ ih=>exact .clo f cs ds hl ih
 |own id n x b h=>exact .own id n x b (up h)
 |bptr id n off x b h=>exact .bptr id n off x b (up h)
 |eptr id n w i off x b h=>exact .eptr id n w i off x b (up h)
 |sub id n w lo hi x b h=>exact .sub id n w lo hi x b (up h)
def RepL.mono{ρ ρ':VL}(hp:ρ <+:ρ'){cs ds:List D}(h:RepL ρ cs ds):RepL ρ' cs ds:=⟨h.1,λk c d h1 h2=>(h.2 k c d h1 h2).mono hp⟩
def RepR.mono{ρ ρ':VL}(hp:ρ <+:ρ'){r s:Res}(h:RepR ρ r s):RepR ρ' r s:=by
 have up:∀{n:Nat} {y:Value×Nat},ρ[n]? =some y->ρ'[n]? =some y:=λ{n y} h=>by
  obtain⟨l,rfl⟩:=hp;rw[qAe (qzV.1 h).1];exact h
 cases h with
 |box n cs ds x b h hc=>exact .box n cs ds x b (up h) (hc.mono hp)
 |row n el w cs ds x b h hc=>exact .row n el w cs ds x b (up h) (hc.mono hp)
 |iter n s p x b h=>exact .iter n s p x b (up h)
section
variable {ρ:VL}
def RepL.nil:RepL ρ [] []:=⟨rfl,λk c d h=>by simp at h⟩
def RepL.cons{c d:D}{cs ds:List D}(h:Rep ρ c d)(hl:RepL ρ cs ds):RepL ρ (c::cs) (d::ds):=⟨by simp[hl.1],λk a b h1 h2=>by
 cases k with
 |zero=>simp at h1 h2;subst h1;subst h2;exact h
 |succ k=>simp at h1 h2;exact hl.2 k a b h1 h2⟩
def RepL.get{cs ds:List D}(h:RepL ρ cs ds){k:Nat}{c:D}(hc:cs[k]? =some c):∃d,ds[k]? =some d/\Rep ρ c d:=by
 have hk:k<ds.length:=by rw[<-h.1];exact(qzV.1 hc).1
 exact⟨ds[k],qzX hk,h.2 k c _ hc (qzX hk)⟩
def RepL.append{a b c d:List D}(h:RepL ρ a b)(k:RepL ρ c d):RepL ρ (a++c) (b++d):=⟨by simp[h.1,k.1],λi x y h1 h2=>by
 by_cases hi:i<a.length
 ·rw[qAe hi]at h1;rw[qAe (by rw[<-h.1];exact hi)]at h2;exact h.2 i x y h1 h2
 ·rw[qz9 (by omega)]at h1;rw[qz9 (by rw[<-h.1];omega),<-h.1]at h2;exact k.2 _ x y h1 h2⟩
def RepL.take{a b:List D}(h:RepL ρ a b)(n:Nat):RepL ρ (a.take n) (b.take n):=⟨by simp[h.1],λi x y h1 h2=>by
 rw[qAf]at h1 h2;split at h1
 ·rename_i hi;rw[if_pos hi]at h2;exact h.2 i x y h1 h2
 ·cases h1⟩
def RepL.drop{a b:List D}(h:RepL ρ a b)(n:Nat):RepL ρ (a.drop n) (b.drop n):=⟨by simp[h.1],λi x y h1 h2=>by
 rw[qAF]at h1 h2;exact h.2 _ x y h1 h2⟩
def RepL.set{a b:List D}(h:RepL ρ a b){n:Nat}{c d:D}(hc:Rep ρ c d):RepL ρ (a.set n c) (b.set n d):=⟨by simp[h.1],λi x y h1 h2=>by
 rw[List.getElem?_set]at h1 h2;split at h1
 ·rename_i e;rw[if_pos e]at h2;rw[h.1]at h1;split at h1
  ·rename_i hl;rw[if_pos hl]at h2;cases h1;cases h2;exact hc
  ·cases h1
 ·rename_i e;rw[if_neg e]at h2;exact h.2 i x y h1 h2⟩
def RepL.same:∀{l:List D},(∀d∈l,Rep ρ d d)->RepL ρ l l
 | [],_=> .nil
 |d::l,h=> .cons (h d (by simp)) (RepL.same λd hd=>h d (by simp[hd]))
def RepL.rep{c d:D}(h:Rep ρ c d):∀n,RepL ρ (List.replicate n c) (List.replicate n d)
 | 0=> .nil
 |n+1=> .cons h (RepL.rep h n)
def RS(x:Value):Rep ρ (qH x) (qH x):=by
 cases x<;>first|exact .v _|exact .any _
def Mj(z:List Value):RepL ρ (z.map qH) (z.map qH):=RepL.same λd hd=>by
 obtain⟨x,_,rfl⟩:=qz1.1 hd;exact RS x
def Rep.kn{c d:D}(h:Rep ρ c d)(hk:c.kn=true):d.kn=true:=by
 cases h<;>first|exact hk|rfl|(cases hk)
theorem Rep.cells{c d:D}(h:Rep ρ c d)(hk:c.kn=true):RepL ρ c.cells d.cells:=by
 cases h with
 |agg cs ds hl h=>exact⟨hl,h⟩
 |any d=>cases hk
 |undef=>exact .cons .undef .nil
 |v x=>exact .cons (.v x) .nil
 |tup cs ds hl h=>exact .cons (.tup cs ds hl h) .nil
 |list n cs ds hl h=>exact .cons (.list n cs ds hl h) .nil
 |cptr cs ds off hl h=>exact .cons (.cptr cs ds off hl h) .nil
 |clo f cs ds hl h=>exact .cons (.clo f cs ds hl h) .nil
 |own id n x b h=>exact .cons (.own id n x b h) .nil
 |bptr id n off x b h=>exact .cons (.bptr id n off x b h) .nil
 |eptr id n w i off x b h=>exact .cons (.eptr id n w i off x b h) .nil
 |sub id n w lo hi x b h=>exact .cons (.sub id n w lo hi x b h) .nil
def RR{cs ds:List D}(h:RepL ρ cs ds)(agg:Bool)(sz off:Nat):Rep ρ (Kw agg sz cs off) (Kw agg sz ds off):=by
 unfold Kw;split
 ·exact .agg _ _ ((h.drop off).take sz).1 ((h.drop off).take sz).2
 ·cases hc:cs[off]? with
  |none=>exact .any _
  | some c=>
    obtain⟨d,hd,hr⟩:=h.get hc;rw[hd];exact hr
def HY{a b c d:List D}(h:RepL ρ a b)(k:RepL ρ c d)(off:Nat):RepL ρ (setAt a off c) (setAt b off d):=by
 unfold setAt;rw[<-k.1];exact((h.take off).append k).append (h.drop _)
def qiP{c d:D}(h:Rep ρ c d){p:IntKind×Int}(hp:mC c=some p):d=c:=by
 cases h<;>first|rfl|(simp[mC]at hp)
end
inductive Tr (α:Type) where
 |e
 |n (v:Option α) (l r:Tr α)
namespace Tr
variable {α:Type}
noncomputable def get(t:Tr α):Nat->Option α:=Tr.rec (motive:=λ_=>Nat->Option α) (λ_=>none)
 (λv _ _ gl gr k=>Bool.rec (Bool.rec (gr (Nat.div (Nat.sub k 2) 2)) (gl (Nat.div (Nat.sub k 1) 2)) (Nat.beq (Nat.mod k 2) 1)) v (Nat.beq k 0)) t
def val:Tr α->Option α
 | .e=>none
 | .n v _ _=>v
def lf:Tr α->Tr α
 | .e=> .e
 | .n _ l _=>l
def rt:Tr α->Tr α
 | .e=> .e
 | .n _ _ r=>r
noncomputable def UR(d:Nat):Tr α->Nat->Option α->Tr α:=Nat.rec (motive:=λ_=>Tr α->Nat->Option α->Tr α) (λ_ _ _=> .e)
 (λ_ ih t k v=>Bool.rec (Bool.rec (.n t.val t.lf (ih t.rt (Nat.div (Nat.sub k 2) 2) v)) (.n t.val (ih t.lf (Nat.div (Nat.sub k 1) 2) v) t.rt) (Nat.beq (Nat.mod k 2) 1)) (.n v t.lf t.rt) (Nat.beq k 0)) d
noncomputable def set(t:Tr α)(k:Nat)(v:α):Tr α:=UR 14 t k (some v)
noncomputable def del(t:Tr α)(k:Nat):Tr α:=UR 14 t k none
noncomputable def map(f:α->α)(t:Tr α):Tr α:=Tr.rec (motive:=λ_=>Tr α) .e (λv _ _ l r=> .n (Option.rec none (λa=>some (f a)) v) l r) t
def get_e(k:Nat):get (.e:Tr α) k=none:=rfl
def get_n(v:Option α)(l r:Tr α)(k:Nat):get (.n v l r) k=if k=0 then v else if k % 2=1 then get l ((k -1) /2)else get r ((k -2) /2):=by
 show Bool.rec (motive:=λ_=>Option α) (Bool.rec (motive:=λ_=>Option α) (get r (Nat.div (Nat.sub k 2) 2)) (get l (Nat.div (Nat.sub k 1) 2)) (Nat.beq (Nat.mod k 2) 1)) v (Nat.beq k 0)=_;cases h:Nat.beq k 0 with
 |true=>rw[if_pos (Nat.eq_of_beq_eq_true h)]
 | false=>
   rw[if_neg (Nat.ne_of_beq_eq_false h)];cases h2:Nat.beq (Nat.mod k 2) 1 with
   |true=>rw[if_pos (show k % 2=1 from Nat.eq_of_beq_eq_true h2)];rfl
   |false=>rw[if_neg (show ¬k % 2=1 from Nat.ne_of_beq_eq_false h2)];rfl
def qcR(t:Tr α)(k:Nat):get t k=if k=0 then t.val else if k % 2=1 then get t.lf ((k -1) /2)else get t.rt ((k -2) /2):=by
 cases t with
 |e=>simp[get_e,val,lf,rt]
 |n v l r=>exact get_n v l r k
theorem qlV(d:Nat)(t:Tr α)(k:Nat)(v:Option α):UR (d+1) t k v=if k=0 then .n v t.lf t.rt else if k % 2=1 then .n t.val (UR d t.lf ((k -1) /2) v) t.rt else .n t.val t.lf (UR d t.rt ((k -2) /2) v):=by
 show Bool.rec (motive:=λ_=>Tr α) (Bool.rec (motive:=λ_=>Tr α) (Tr.n t.val t.lf (UR d t.rt (Nat.div (Nat.sub k 2) 2) v)) (.n t.val (UR d t.lf (Nat.div (Nat.sub k 1) 2) v) t.rt) (Nat.beq (Nat.mod k 2) 1)) (.n v t.lf t.rt) (Nat.beq k 0)=_;cases h:Nat.beq k 0 with
 |true=>rw[if_pos (Nat.eq_of_beq_eq_true h)]
 | false=>
   rw[if_neg (Nat.ne_of_beq_eq_false h)];cases h2:Nat.beq (Nat.mod k 2) 1 with
   |true=>rw[if_pos (show k % 2=1 from Nat.eq_of_beq_eq_true h2)];rfl
   |false=>rw[if_neg (show ¬k % 2=1 from Nat.ne_of_beq_eq_false h2)];rfl
theorem GD{v:Option α} :∀(d:Nat) (t:Tr α) (k j:Nat) (r:α),get (UR d t k v) j=some r->(j=k/\v=some r)\/(j≠k/\get t j=some r)
 | 0,t,k,j,r,h=>by cases h
 | d+1,t,k,j,r,h=>by
   rw[qlV]at h;rw[qcR t j];split at h
   ·rename_i hk;rw[get_n]at h;split at h
    ·rename_i hj;exact .inl ⟨by omega,h⟩
    ·rename_i hj;rw[if_neg hj];exact .inr ⟨by omega,h⟩
   ·split at h
    ·rename_i hk hk2;rw[get_n]at h;split at h
     ·rename_i hj;rw[if_pos hj];exact .inr ⟨by omega,h⟩
     ·rename_i hj;rw[if_neg hj];split at h
      ·rename_i hj2;rw[if_pos hj2];rcases GD d _ _ _ _ h with⟨e,hv⟩|⟨e,hg⟩
       ·exact .inl ⟨by omega,hv⟩
       ·exact .inr ⟨λe2=>e (by rw[e2]),hg⟩
      ·rename_i hj2;rw[if_neg hj2];exact .inr ⟨λe2=>hj2 (by rw[e2];exact hk2),h⟩
    ·rename_i hk hk2;rw[get_n]at h;split at h
     ·rename_i hj;rw[if_pos hj];exact .inr ⟨by omega,h⟩
     ·rename_i hj;rw[if_neg hj];split at h
      ·rename_i hj2;rw[if_pos hj2];exact .inr ⟨λe2=>hk2 (by rw[<-e2];exact hj2),h⟩
      ·rename_i hj2;rw[if_neg hj2];rcases GD d _ _ _ _ h with⟨e,hv⟩|⟨e,hg⟩
       ·exact .inl ⟨by omega,hv⟩
       ·exact .inr ⟨λe2=>e (by rw[e2]),hg⟩
def get_set{t:Tr α}{k j:Nat}{v r:α}(h:get (set t k v) j=some r):(j=k/\r=v)\/(j≠k/\get t j=some r):=
 (GD 14 t k j r h).imp (λh=>⟨h.1,by have:=h.2;simpa using this.symm⟩) id
def get_del{t:Tr α}{k j:Nat}{r:α}(h:get (del t k) j=some r):j≠k/\get t j=some r:=by
 rcases GD 14 t k j r h with⟨_,h⟩|h
 ·cases h
 ·exact h
def get_map(f:α->α):∀(t:Tr α) (k:Nat),get (map f t) k=(get t k).map f
 | .e,k=>rfl
 | .n v l r,k=>by
   show get (.n (Option.rec none (λa=>some (f a)) v) (map f l) (map f r)) k=_;rw[get_n,get_n];split
   ·cases v<;>rfl
   ·split
    ·exact get_map f l _
    ·exact get_map f r _
end Tr
abbrev HE:=Tr Res
def HRep(ρ:VL)(he:HE)(H:ab):Prop:=∀i r,he.get i=some r->∃r',H i=some r'/\RepR ρ r r'
def SRep(ρ:VL)(σe σ:Sg):Prop:=∀t,Rep ρ (σe t) (σ t)
section
variable {ρ:VL}{σe σ:Sg}{he:HE}{H:ab}
def HRep.mono{ρ':VL}(hp:ρ <+:ρ')(h:HRep ρ he H):HRep ρ' he H:=λi r hi=>by
 obtain⟨r',h1,h2⟩:=h i r hi;exact⟨r',h1,h2.mono hp⟩
def HRep.set{r r':Res}{i:Nat}(h:HRep ρ he H)(hr:RepR ρ r r'):HRep ρ (he.set i r) (ai H i (some r')):=λj s hj=>by
 unfold ai;rcases Tr.get_set hj with⟨rfl,rfl⟩|⟨e,hg⟩
 ·exact⟨r',by rw[if_pos rfl],hr⟩
 ·rw[if_neg e];exact h j s hg
def aV(h:SRep ρ σe σ)(x:Operand):Rep ρ (ev σe x) (ev σ x):=by
 cases x with
 |tmp t=>exact h t
 |const x=>exact RS x
 |global g=>exact .v _
 |func f=>exact .clo _ _ _ rfl (λk c d h=>by simp at h)
def zM(h:SRep ρ σe σ)(l:List Operand):RepL ρ (l.map (ev σe)) (l.map (ev σ)):=by
 induction l with
 |nil=>exact .nil
 |cons x l ih=>exact .cons (aV h x) ih
end
def ZN:Value->Value->Bool
 | .int _ a, .int _ b=>decide (a=b)
 | _,_=>false
def Eb(n:Nat):List D->Bool
 | []=>true
 |d::r=>d.kn && Nat.beq d.cells.length n && Eb n r
def Y2:IntKind->Int->Bool
 | .i64,n=>decide (-9223372036854775808<=n) && decide (n<=9223372036854775807)
 | .i32,n=>decide (-2147483648<=n) && decide (n<=2147483647)
 | .i16,n=>decide (-32768<=n) && decide (n<=32767)
 | .i8,n=>decide (-128<=n) && decide (n<=127)
 | .u64,n=>decide (0<=n) && decide (n<=18446744073709551615)
 | .u32,n=>decide (0<=n) && decide (n<=4294967295)
 | .u16,n=>decide (0<=n) && decide (n<=65535)
 | .u8,n=>decide (0<=n) && decide (n<=255)
def Sx{k:IntKind}{n:Int}(h:Y2 k n=true):InR k n:=by
 cases k<;>simpa [Y2,InR]using h
def qnz(op:BinOp)(k:IntKind)(a b:Int):Option Int:=match op with
 | .add=>if Y2 k (a+b)then some (a+b)else none
 | .sub=>if Y2 k (a -b)then some (a -b)else none
 | .mul=>if Y2 k (a*b)then some (a*b)else none
 | .quo=>if decide (b≠0) && Y2 k (a.tdiv b)then some (a.tdiv b)else none
 | .rem=>if b=0 then none else some (a.tmod b)
 | .and=>some (De k a b)
 | .or=>some (qoc k a b)
 | .shl=>if 0<=b then some (Rr k a b)else none
 | .shr=>if 0<=b then some (Yt k a b)else none
 | _=>none
def qpS(op:BinOp)(k k':IntKind):Bool:=match op with
 | .shl| .shr=>true
 | _=>decide (k=k')
def Tf(σ:Sg):List (Nat×Nat×Operand)->List D->Option (List D)
 | [],cs=>some cs
 |(off,sz,x)::r,cs=>if(ev σ x).kn && Nat.beq (ev σ x).cells.length sz then Tf σ r (setAt cs off (ev σ x).cells)else none
def qgS(lo hi:Option (Option (IntKind×Int)))(len:Nat):Option (Nat×Nat):=match lo,hi with
 |none,none=>some (0,len)
 |some (some (_,l)),none=>if decide (0<=l) && decide (l<=len)then some (l.toNat,len)else none
 |none,some (some (_,h))=>if decide (0<=h) && decide (h<=len)then some (0,h.toNat)else none
 |some (some (_,l)),some (some (_,h))=>if decide (0<=l) && decide (l<=h) && decide (h<=len)then some (l.toNat,h.toNat)else none
 | _,_=>none
def jW(c x y:D):Option D:=match c with
 | .v (.bool true)=>some x
 | .v (.bool false)=>some y
 | _=>none
def tz(d:D):Option D:=if d.kn then some (.cptr d.cells 0)else none
def KW(n:Nat)(ds:List D):Option D:=if Eb n ds then some (.list n ds)else none
noncomputable def jX(agg:Bool)(sz:Nat)(he:HE)(d:D):Option D:=match d with
 | .cptr cs off=>if off+sz<=cs.length then some (Kw agg sz cs off)else none
 | .bptr id b off=>match he.get id with
   |some (.box b' cs)=>if Nat.beq b' b && decide (off+sz<=cs.length)then some (Kw agg sz cs off)else none
   | _=>none
 | .eptr id x n i off=>match he.get id with
   | some (.row x' _ n' es)=>if ZN x' x && Nat.beq n' n && decide (off+sz<=n)then(match es[i]? with
     |some d=>if d.kn then some (Kw agg sz d.cells off)else none
     |none=>none)else none
   | _=>none
 | _=>none
def tn(d:D):Option D:=match d with
 | .cptr cs off=>some (.cptr cs off)
 | .bptr id b off=>some (.bptr id b off)
 | .eptr id x n i off=>some (.eptr id x n i off)
 | _=>none
def tA(op:BinOp)(x y:D):Option D:=match x,y with
 | .v (.int k a), .v (.int k' b)=>if qpS op k k' then(qnz op k a b).map λn=> .v (.int k n)else none
 | _,_=>none
def tv(op:BinOp)(x y:D):Option D:=match x,y with
 | .v (.int k a), .v (.int k' b)=>if k=k' then(Tc op a b).map λt=> .v (.bool t)else none
 | .v (.string a), .v (.string b)=>(Xb op a b).map λt=> .v (.bool t)
 | _,_=>none
def tw(x y:D):Option D:=match x,y with
 | .v (.string a), .v (.string b)=>if a.size+b.size<=1000000000 then some (.v (.string (a++b)))else none
 | _,_=>none
def tm(x:D):Option D:=match x with
 | .v (.bool b)=>some (.v (.bool (!b)))
 | _=>none
def tq(x:D):Option D:=match x with
 | .v (.int k n)=>if Y2 k (0 -n)then some (.v (.int k (0 -n)))else none
 | _=>none
def jY(k:IntKind)(x:D):Option D:=match x with
 | .v (.int _ n)=>some (.v (.int k (k.wrap n)))
 | _=>none
noncomputable def fa(n:Nat)(he:HE)(lo hi:Option (Option (IntKind×Int)))(x:D):Option D:=match x with
 | .list n' es=>if Nat.beq n' n then(qgS lo hi es.length).map λp=> .list n ((es.take p.2).drop p.1)else none
 | .own id x=>match he.get id with
   |some (.row x' _ n' es)=>if ZN x' x && Nat.beq n' n then(qgS lo hi es.length).map λp=> .sub id x n p.1 p.2 else none
   | _=>none
 | _=>none
def KO(lo hi:Option (Option (IntKind×Int)))(x:D):Option D:=match x with
 | .v (.string s)=>(qgS lo hi s.size).map λp=> .v (.string (s.extract p.1 p.2))
 | _=>none
def KV(off:Nat)(x:D):Option D:=match x with
 | .cptr cs o=>some (.cptr cs (o+off))
 | .bptr id b o=>some (.bptr id b (o+off))
 | .eptr id x n i o=>some (.eptr id x n i (o+off))
 | _=>none
def tt(agg:Bool)(sz off:Nat)(x:D):Option D:=match x with
 | .agg cs=>if off+sz<=cs.length then some (Kw agg sz cs off)else none
 | _=>none
noncomputable def KU(n:Nat)(he:HE)(x i:D):Option D:=match i with
 | .v (.int _ k)=>match x with
   | .list n' es=>if Nat.beq n' n && decide (0<=k)then(match es[k.toNat]? with
     |some d=>if d.kn then some (.cptr d.cells 0)else none
     |none=>none)else none
   | .own id x=>match he.get id with
     |some (.row x' _ n' es)=>if ZN x' x && Nat.beq n' n && decide (0<=k) && decide (k<es.length)then some (.eptr id x n k.toNat 0)else none
     | _=>none
   | .sub id x n' lo hi=>if Nat.beq n' n && decide (0<=k) && decide (k<(hi -lo:Nat))then some (.eptr id x n (lo+k.toNat) 0)else none
   | _=>none
 | _=>none
def KR(x i:D):Option D:=match i with
 | .v (.int _ k)=>match x with
   | .v (.string s)=>if decide (0<=k)then(s.data[k.toNat]?).map λc=> .v (.int .u8 c.toNat)else none
   | _=>none
 | _=>none
def tu(x:D)(i:Nat):Option D:=match x with
 | .tup ds=>ds[i]?
 | _=>none
noncomputable def tr(he:HE)(x:D):Option D:=match x with
 | .list _ es=>some (.v (.int .i64 es.length))
 | .own id x=>match he.get id with
   |some (.row x' _ _ es)=>if ZN x' x then some (.v (.int .i64 es.length))else none
   | _=>none
 | .v (.slice _ n _)=>some (.v (.int .i64 n))
 | .sub _ _ _ lo hi=>some (.v (.int .i64 (hi -lo:Nat)))
 | _=>none
def KQ(x:D):Option D:=match x with
 | .v (.string s)=>some (.v (.int .i64 s.size))
 | _=>none
def KS(x:D):Option D:=match x with
 | .v (.int _ n)=>some (.v (.string (Utf8.encode n)))
 | _=>none
def KP(x:D):Option D:=match x with
 | .v (.string s)=>if s.size<=1000000000 then some (.list 1 ((Conv.runesFrom s s.size 0 #[]).toList.map D.v))else none
 | _=>none
def JM(x:D):Option D:=match x with
 | .v (.string s)=>some (.list 1 (s.data.toList.map λc=> .v (.int .u8 c.toNat)))
 | _=>none
def KT(mx:Bool)(x y:D):Option D:=match x,y with
 | .v (.int k a), .v (.int k' b)=>if k=k' then some (.v (.int k (if mx then max a b else min a b)))else none
 | _,_=>none
noncomputable def cV(c:COp)(σ:Sg)(he:HE):Option D:=match c with
 | .mv x=>some (ev σ x)
 | .pick c x y=>jW (ev σ c) (ev σ x) (ev σ y)
 | .box _ true x=>tz (ev σ x)
 | .build z ps=>(Tf σ ps (z.map qH)).map .agg
 | .bslice _ n ps=>KW n (ps.map (ev σ))
 | .load agg sz x=>jX agg sz he (ev σ x)
 | .nilck x=>tn (ev σ x)
 | .arith op x y=>tA op (ev σ x) (ev σ y)
 | .cmp op x y=>tv op (ev σ x) (ev σ y)
 | .eql neg agg ks x y=>(qgv agg ks (ev σ x) (ev σ y)).map λp=> .v (.bool (if neg then !p else p))
 | .scat x y=>tw (ev σ x) (ev σ y)
 | .not x=>tm (ev σ x)
 | .neg x=>tq (ev σ x)
 | .conv k x=>jY k (ev σ x)
 | .clo f caps=>some (.clo f (caps.map (ev σ)))
 | .slice n x lo hi=>fa n he (lo.map λo=>mC (ev σ o)) (hi.map λo=>mC (ev σ o)) (ev σ x)
 | .sslice x lo hi=>KO (lo.map λo=>mC (ev σ o)) (hi.map λo=>mC (ev σ o)) (ev σ x)
 | .faddr off x=>KV off (ev σ x)
 | .fld agg sz off x=>tt agg sz off (ev σ x)
 | .iaddr n x i=>KU n he (ev σ x) (ev σ i)
 | .sidx x i=>KR (ev σ x) (ev σ i)
 | .ext x i=>tu (ev σ x) i
 | .len x=>tr he (ev σ x)
 | .slen x=>KQ (ev σ x)
 | .rstr x=>KS (ev σ x)
 | .srunes x=>KP (ev σ x)
 | .sbytes x=>JM (ev σ x)
 | .mm mx [x,y]=>KT mx (ev σ x) (ev σ y)
 | _=>none
section
variable {ρ:VL}{σe σ:Sg}{he:HE}{H:ab}
def CA{n:Nat} :∀{cs ds:List D},RepL ρ cs ds->Eb n cs=true->kg n ds
 | [], [],_,_=>trivial
 | [],_::_,h,_=>by have:=h.1;simp at this
 | _::_, [],h,_=>by have:=h.1;simp at this
 | c::cs,d::ds,h,hp=>by
   simp only[Eb,qzZ]at hp;have h0:=h.2 0 c d rfl rfl;have ht:RepL ρ cs ds:=⟨by have:=h.1;simpa using this,λk a b h1 h2=>h.2 (k+1) a b (by simpa using h1) (by simpa using h2)⟩
   refine⟨h0.kn hp.1.1,?_,CA ht hp.2⟩;rw[<- (h0.cells hp.1.1).1];exact Nat.eq_of_beq_eq_true hp.1.2
def Qz(hσ:SRep ρ σe σ){K:List D->Prop} :∀(ps:List (Nat×Nat×Operand)) (cs ds out:List D),RepL ρ cs ds->Tf σe ps cs=some out->(∀ds',RepL ρ out ds'->K ds')->kA σ ps ds K
 | [],cs,ds,out,h,he,hK=>by cases he;exact hK ds h
 | (off,sz,x)::r,cs,ds,out,h,he,hK=>by
  simp only[Tf]at he;split at he
  ·rename_i hc;simp only[qzZ]at hc;have hx:=aV hσ x;refine⟨hx.kn hc.1,?_,Qz hσ r _ _ out (HY h (hx.cells hc.1) off) he hK⟩;rw[<- (hx.cells hc.1).1];exact Nat.eq_of_beq_eq_true hc.2
  ·cases he
def Ti(hσ:SRep ρ σe σ){o:Operand}{p:IntKind×Int}(h:mC (ev σe o)=some p):mC (ev σ o)=some p:=by rw[qiP (aV hσ o) h];exact h
theorem SX(hσ:SRep ρ σe σ){lo hi:Option Operand}{len:Nat}{p:Nat×Nat}(h:qgS (lo.map λo=>mC (ev σe o)) (hi.map λo=>mC (ev σe o)) len=some p){K:Nat->Nat->Prop}(hK:K p.1 p.2):
 pY (lo.map λo=>mC (ev σ o)) (hi.map λo=>mC (ev σ o)) len K:=by
 have key:∀(o:Option Operand),(∃q,(o.map λo=>mC (ev σe o))=some (some q))\/(o.map λo=>mC (ev σe o))=none->(o.map λo=>mC (ev σ o))=o.map λo=>mC (ev σe o):=λo h=>by
  cases o with
  |none=>rfl
  | some o=>
    rcases h with⟨q,h⟩|h
    ·simp only[qBh,qAa]at h ⊢;rw[Ti hσ h,h]
    ·cases h
 unfold qgS at h;split at h
 ·rename_i e1 e2;rw[key lo (.inr e1),key hi (.inr e2),e1,e2];cases h;exact hK
 ·rename_i k l e1 e2;rw[key lo (.inl ⟨_,e1⟩),key hi (.inr e2),e1,e2];split at h
  ·rename_i hc;simp at hc;cases h;exact⟨hc.1,hc.2,hK⟩
  ·cases h
 ·rename_i k l e1 e2;rw[key lo (.inr e1),key hi (.inl ⟨_,e2⟩),e1,e2];split at h
  ·rename_i hc;simp at hc;cases h;exact⟨hc.1,hc.2,hK⟩
  ·cases h
 ·rename_i k l k' l' e1 e2;rw[key lo (.inl ⟨_,e1⟩),key hi (.inl ⟨_,e2⟩),e1,e2];split at h
  ·rename_i hc;simp at hc;cases h;exact⟨hc.1.1,hc.1.2,hc.2,hK⟩
  ·cases h
 ·cases h
def Ft{n m:Nat}{x:Value}{b:Nat}{y:Value}{c:Nat}(h:ZN (nm n) (nm m)=true)(h1:ρ[n]? =some (x,b))(h2:ρ[m]? =some (y,c)):x=y:=by
 simp only[ZN,decide_eq_true_eq]at h;have:n=m:=by omega
 subst this;rw[h1]at h2;cases h2;rfl
def qny{op:BinOp}{k:IntKind}{a b n:Int}(h:qnz op k a b=some n){K:D->Prop}(hK:K (.v (.int k n))):gQ op k a b K:=by
 cases op<;>simp only[qnz]at h<;>try (cases h;done)
 all_goals first
  | (split at h
     ·rename_i hc
      first
      |(cases h;exact⟨Sx hc,hK⟩)
      |(cases h;exact⟨hc,hK⟩)
      |(simp only[qzZ,decide_eq_true_eq]at hc;cases h;exact⟨hc.1,Sx hc.2,hK⟩)
      |(cases h;done)
     ·rename_i hc
      first
      |(cases h;done)
      |(cases h;exact⟨hc,hK⟩))
  |(cases h;exact hK)
def qjr{op:BinOp}{k k':IntKind}(h:qpS op k k'=true):qcD op k k':=by
 cases op<;>first|trivial|exact(of_decide_eq_true (p:=k=k') h)
def qaV{k:XI}{a b c d:D}(h1:Rep ρ a c)(h2:Rep ρ b d){p:Bool}(h:Zm k a b=some p):Zm k c d=some p:=by
 cases h1<;>cases h2<;>first|exact h|(cases k<;>simp[Zm,mC,qq4,qq5]at h)
theorem qaU:∀ {ks:List XI} {az bs cs ds:List D},RepL ρ az cs->RepL ρ bs ds->∀{p:Bool},Zj ks az bs=some p->Zj ks cs ds=some p
 | [],az,bs,cs,ds,h1,h2,p,h=>by
   have e1:=h1.1;have e2:=h2.1;cases az<;>cases cs<;>simp at e1<;>cases bs<;>cases ds<;>simp at e2<;>first|exact h|(simp[Zj]at h)
 | k::ks,az,bs,cs,ds,h1,h2,p,h=>by
   have e1:=h1.1;have e2:=h2.1;cases az with
   |nil=>simp[Zj]at h
   | cons a az=>
     cases bs with
     |nil=>simp[Zj]at h
     | cons b bs=>
       cases cs with
       |nil=>simp at e1
       | cons c cs=>
         cases ds with
         |nil=>simp at e2
         | cons d ds=>
           simp only[Zj,List.head?_cons,qAh,List.tail_cons,qzU]at h ⊢;obtain⟨q,hq,r,hr,h⟩:=h;have t1:RepL ρ az cs:=⟨by simpa using e1,λk x y a b=>h1.2 (k+1) x y (by simpa using a) (by simpa using b)⟩
           have t2:RepL ρ bs ds:=⟨by simpa using e2,λk x y a b=>h2.2 (k+1) x y (by simpa using a) (by simpa using b)⟩
           exact⟨q,qaV (h1.2 0 a c rfl rfl) (h2.2 0 b d rfl rfl) hq,r,qaU t1 t2 hr,h⟩
def qjT{agg:Bool}{ks:List XI}{a b c d:D}(h1:Rep ρ a c)(h2:Rep ρ b d){p:Bool}(h:qgv agg ks a b=some p):qgv agg ks c d=some p:=by
 unfold qgv at h ⊢;split at h
 ·rename_i e;rw[if_pos e];cases h1<;>try (simp[rV]at h;done)
  rename_i az cs l1 g1;cases h2<;>try (simp[rV]at h;done)
  rename_i bs ds l2 g2;exact qaU ⟨l1,g1⟩ ⟨l2,g2⟩ h
 ·rename_i e;rw[if_neg e];split at h
  ·exact qaV h1 h2 h
  ·cases h
theorem II(hσ:SRep ρ σe σ)(hH:HRep ρ he H){c:COp}{d:D}(h:cV c σe he=some d){K:D->Prop}(hK:∀d',Rep ρ d d'->K d'):aj c σ H K:=by
 cases c<;>try (cases h;done)
 case mv x=>cases h;exact hK _ (aV hσ x)
 case pick c x y=>
  simp only[cV,jW,tz,KW,jX,tn,tA,tv,tw,tm,tq,jY,fa,KO,KV,tt,KU,KR,tu,tr,KQ,KS,KP,JM,KT]at h;simp only[aj];have hc:=aV hσ c;generalize ev σe c=a at h hc;generalize ev σ c=b at hc;cases hc<;>try (cases h;done)
  rename_i v;cases v<;>try (cases h;done)
  rename_i t;cases t
  ·cases h;exact⟨λe=>(by cases e),λ_=>hK _ (aV hσ y)⟩
  ·cases h;exact⟨λ_=>hK _ (aV hσ x),λe=>(by cases e)⟩
 case box el im x=>
  cases im
  ·cases h
  ·simp only[cV,jW,tz,KW,jX,tn,tA,tv,tw,tm,tq,jY,fa,KO,KV,tt,KU,KR,tu,tr,KQ,KS,KP,JM,KT]at h;split at h
   ·rename_i hk;cases h;have hx:=aV hσ x;exact⟨hx.kn hk,hK _ (.cptr _ _ _ (hx.cells hk).1 (hx.cells hk).2)⟩
   ·cases h
 case build z ps=>
  simp only[cV,qz6]at h;obtain⟨cs,h,rfl⟩:=h;exact Qz hσ ps _ _ cs (Mj z) h λds hd=>hK _ (.agg _ _ hd.1 hd.2)
 case bslice el n ps=>
  simp only[cV,jW,tz,KW,jX,tn,tA,tv,tw,tm,tq,jY,fa,KO,KV,tt,KU,KR,tu,tr,KQ,KS,KP,JM,KT]at h;split at h
  ·rename_i hp;cases h;have hr:=zM hσ ps;exact⟨CA hr hp,hK _ (.list _ _ _ hr.1 hr.2)⟩
  ·cases h
 case load agg sz x=>
  simp only[cV,jW,tz,KW,jX,tn,tA,tv,tw,tm,tq,jY,fa,KO,KV,tt,KU,KR,tu,tr,KQ,KS,KP,JM,KT]at h;simp only[aj];have hx:=aV hσ x;generalize ev σe x=a at h hx;generalize ev σ x=b at hx;cases hx<;>try (cases h;done)
  ·rename_i cs ds off hl hc;dsimp only at h ⊢;split at h
   ·rename_i hb;cases h;exact⟨by rw[<-hl];exact hb,hK _ (RR ⟨hl,hc⟩ _ _ _)⟩
   ·cases h
  ·rename_i id n off x b hn;dsimp only at h ⊢;split at h
   ·rename_i b' cs hg;split at h
    ·rename_i hb;simp only[qzZ,decide_eq_true_eq]at hb;obtain⟨r',h1,h2⟩:=hH _ _ hg;cases h;rw[h1];cases h2 with
     | box n' cs ds x' b2 hn' hc=>
       have e:=Nat.eq_of_beq_eq_true hb.1;subst e;rw[hn]at hn';cases hn';exact⟨rfl,by rw[<-hc.1];exact hb.2,hK _ (RR hc _ _ _)⟩
    ·cases h
   ·cases h
  ·rename_i id n w i off x b hn;dsimp only at h ⊢;split at h
   ·rename_i x' el n' es hg;split at h
    ·rename_i hb;simp only[qzZ,decide_eq_true_eq]at hb;obtain⟨r',h1,h2⟩:=hH _ _ hg;rw[h1];cases h2 with
     | row m el w' cs ds y b2 hm hc=>
       have e:=Nat.eq_of_beq_eq_true hb.1.2;subst e;have ex:=Ft hb.1.1 hm hn;subst ex;split at h
       ·rename_i d0 hd0;split at h
        ·rename_i hk;cases h;obtain⟨d1,hd1,hr⟩:=hc.get hd0;refine⟨rfl,rfl,hb.2,(qzV.1 hd1).1,λd hd=>?_⟩;rw[hd1]at hd;cases hd;exact hK _ (RR (hr.cells hk) _ _ _)
        ·cases h
       ·cases h
    ·cases h
   ·cases h
 case nilck x=>
  simp only[cV,jW,tz,KW,jX,tn,tA,tv,tw,tm,tq,jY,fa,KO,KV,tt,KU,KR,tu,tr,KQ,KS,KP,JM,KT]at h;simp only[aj];have hx:=aV hσ x;generalize ev σe x=a at h hx;generalize ev σ x=b at hx;cases hx<;>try (cases h;done)
  ·rename_i cs ds off hl hc;cases h;exact hK _ (.cptr _ _ _ hl hc)
  ·rename_i hn;cases h;exact hK _ (.bptr _ _ _ _ _ hn)
  ·rename_i hn;cases h;exact hK _ (.eptr _ _ _ _ _ _ _ hn)
 case arith op x y=>
  simp only[cV,jW,tz,KW,jX,tn,tA,tv,tw,tm,tq,jY,fa,KO,KV,tt,KU,KR,tu,tr,KQ,KS,KP,JM,KT]at h;simp only[aj];have hx:=aV hσ x;have hy:=aV hσ y;generalize ev σe x=a at h hx;generalize ev σ x=b at hx;generalize ev σe y=a' at h hy;generalize ev σ y=b' at hy;cases hx<;>try (cases h;done)
  rename_i v;cases v<;>try (cases h;done)
  cases hy<;>try (cases h;done)
  rename_i v;cases v<;>try (cases h;done)
  dsimp only at h ⊢;split at h
  ·rename_i hk;simp only[qz6]at h;obtain⟨n,h,rfl⟩:=h;exact⟨qjr hk,qny h (hK _ (.v _))⟩
  ·cases h
 case cmp op x y=>
  simp only[cV,jW,tz,KW,jX,tn,tA,tv,tw,tm,tq,jY,fa,KO,KV,tt,KU,KR,tu,tr,KQ,KS,KP,JM,KT]at h;simp only[aj];have hx:=aV hσ x;have hy:=aV hσ y;generalize ev σe x=a at h hx;generalize ev σ x=b at hx;generalize ev σe y=a' at h hy;generalize ev σ y=b' at hy;cases hx<;>try (cases h;done)
  rename_i v;cases v<;>try (cases h;done)
  all_goals
   cases hy<;>try (cases h;done)
   rename_i v;cases v<;>try (cases h;done)
   dsimp only at h ⊢
  ·split at h
   ·rename_i hk;simp only[qz6]at h;obtain⟨t,h,rfl⟩:=h;rw[h];exact⟨hk,hK _ (.v _)⟩
   ·cases h
  ·simp only[qz6]at h;obtain⟨t,h,rfl⟩:=h;rw[h];exact hK _ (.v _)
 case eql neg agg ks x y=>
  simp only[cV,qz6]at h;obtain⟨p,h,rfl⟩:=h;simp only[aj];rw[qjT (aV hσ x) (aV hσ y) h];exact hK _ (.v _)
 case scat x y=>
  simp only[cV,jW,tz,KW,jX,tn,tA,tv,tw,tm,tq,jY,fa,KO,KV,tt,KU,KR,tu,tr,KQ,KS,KP,JM,KT]at h;simp only[aj];have hx:=aV hσ x;have hy:=aV hσ y;generalize ev σe x=a at h hx;generalize ev σ x=b at hx;generalize ev σe y=a' at h hy;generalize ev σ y=b' at hy;cases hx<;>try (cases h;done)
  rename_i v;cases v<;>try (cases h;done)
  cases hy<;>try (cases h;done)
  rename_i v;cases v<;>try (cases h;done)
  dsimp only at h ⊢;split at h
  ·rename_i hk;cases h;exact⟨hk,hK _ (.v _)⟩
  ·cases h
 case not x=>
  simp only[cV,jW,tz,KW,jX,tn,tA,tv,tw,tm,tq,jY,fa,KO,KV,tt,KU,KR,tu,tr,KQ,KS,KP,JM,KT]at h;simp only[aj];have hx:=aV hσ x;generalize ev σe x=a at h hx;generalize ev σ x=b at hx;cases hx<;>try (cases h;done)
  rename_i v;cases v<;>try (cases h;done)
  cases h;exact hK _ (.v _)
 case neg x=>
  simp only[cV,jW,tz,KW,jX,tn,tA,tv,tw,tm,tq,jY,fa,KO,KV,tt,KU,KR,tu,tr,KQ,KS,KP,JM,KT]at h;simp only[aj];have hx:=aV hσ x;generalize ev σe x=a at h hx;generalize ev σ x=b at hx;cases hx<;>try (cases h;done)
  rename_i v;cases v<;>try (cases h;done)
  dsimp only at h ⊢;split at h
  ·rename_i hk;cases h;exact⟨Sx hk,hK _ (.v _)⟩
  ·cases h
 case conv k x=>
  simp only[cV,jW,tz,KW,jX,tn,tA,tv,tw,tm,tq,jY,fa,KO,KV,tt,KU,KR,tu,tr,KQ,KS,KP,JM,KT]at h;simp only[aj];have hx:=aV hσ x;generalize ev σe x=a at h hx;generalize ev σ x=b at hx;cases hx<;>try (cases h;done)
  rename_i v;cases v<;>try (cases h;done)
  cases h;exact hK _ (.v _)
 case clo f caps=>
  cases h;have hr:=zM hσ caps;exact hK _ (.clo _ _ _ hr.1 hr.2)
 case slice n x lo hi=>
  simp only[cV,jW,tz,KW,jX,tn,tA,tv,tw,tm,tq,jY,fa,KO,KV,tt,KU,KR,tu,tr,KQ,KS,KP,JM,KT]at h;simp only[aj];have hx:=aV hσ x;generalize ev σe x=a at h hx;generalize ev σ x=b at hx;cases hx<;>try (cases h;done)
  ·rename_i n' cs ds hl hc;dsimp only at h ⊢;split at h
   ·rename_i hn;simp only[qz6]at h;obtain⟨p,h,rfl⟩:=h;refine⟨Nat.eq_of_beq_eq_true hn,?_⟩;have hrl:RepL ρ cs ds:=⟨hl,hc⟩
    have hKp:K (.list n ((ds.take p.2).drop p.1)):=hK _ (.list _ _ _ ((hrl.take p.2).drop p.1).1 ((hrl.take p.2).drop p.1).2);rw[hl]at h;have hv:=SX hσ h (K:=λl h=>l=p.1/\h=p.2) ⟨rfl,rfl⟩;generalize (lo.map λo=>mC (ev σ o))=a at hv ⊢;generalize (hi.map λo=>mC (ev σ o))=b at hv ⊢;rcases a with _|_|⟨k1,l1⟩ <;>rcases b with _|_|⟨k2,l2⟩ <;>simp only[pY]at hv ⊢ <;>try (exact hv.elim)
    ·rw[<-hv.1,<-hv.2,qAb,List.drop_zero]at hKp;exact hKp
    ·rw[<-hv.2.2.1,<-hv.2.2.2,List.drop_zero]at hKp;exact⟨hv.1,hv.2.1,hKp⟩
    ·rw[<-hv.2.2.1,<-hv.2.2.2,qAb]at hKp;exact⟨hv.1,hv.2.1,hKp⟩
    ·rw[<-hv.2.2.2.1,<-hv.2.2.2.2]at hKp;exact⟨hv.1,hv.2.1,hv.2.2.1,hKp⟩
   ·cases h
  ·rename_i id m x b hn;dsimp only at h ⊢;split at h
   ·rename_i x' el n' es hg;split at h
    ·rename_i hb;simp only[qzZ]at hb;simp only[qz6]at h;obtain⟨p,h,rfl⟩:=h;obtain⟨r',h1,h2⟩:=hH _ _ hg;rw[h1];cases h2 with
     | row m' el w' cs ds y b2 hm hc=>
       have e:=Nat.eq_of_beq_eq_true hb.2;subst e;have ex:=Ft hb.1 hm hn;subst ex;rw[hc.1]at h;exact⟨rfl,rfl,SX hσ h (hK _ (.sub _ _ _ _ _ _ _ hn))⟩
    ·cases h
   ·cases h
 case sslice x lo hi=>
  simp only[cV,jW,tz,KW,jX,tn,tA,tv,tw,tm,tq,jY,fa,KO,KV,tt,KU,KR,tu,tr,KQ,KS,KP,JM,KT]at h;simp only[aj];have hx:=aV hσ x;generalize ev σe x=a at h hx;generalize ev σ x=b at hx;cases hx<;>try (cases h;done)
  rename_i v;cases v<;>try (cases h;done)
  rename_i s;simp only[qz6]at h;obtain⟨p,h,rfl⟩:=h;have hKp:K (.v (.string (s.extract p.1 p.2))):=hK _ (.v _);have hv:=SX hσ h (K:=λl h=>l=p.1/\h=p.2) ⟨rfl,rfl⟩;dsimp only;generalize (lo.map λo=>mC (ev σ o))=a at hv ⊢;generalize (hi.map λo=>mC (ev σ o))=b at hv ⊢;rcases a with _|_|⟨k1,l1⟩ <;>rcases b with _|_|⟨k2,l2⟩ <;>simp only[pY]at hv ⊢ <;>try (exact hv.elim)
  ·rw[<-hv.1,<-hv.2]at hKp;exact hKp
  ·rw[<-hv.2.2.1,<-hv.2.2.2]at hKp;exact⟨hv.1,hv.2.1,hKp⟩
  ·rw[<-hv.2.2.1,<-hv.2.2.2]at hKp;exact⟨hv.1,hv.2.1,hKp⟩
  ·rw[<-hv.2.2.2.1,<-hv.2.2.2.2]at hKp;exact⟨hv.1,hv.2.1,hv.2.2.1,hKp⟩
 case faddr off x=>
  simp only[cV,jW,tz,KW,jX,tn,tA,tv,tw,tm,tq,jY,fa,KO,KV,tt,KU,KR,tu,tr,KQ,KS,KP,JM,KT]at h;simp only[aj];have hx:=aV hσ x;generalize ev σe x=a at h hx;generalize ev σ x=b at hx;cases hx<;>try (cases h;done)
  ·rename_i cs ds off hl hc;cases h;exact hK _ (.cptr _ _ _ hl hc)
  ·rename_i hn;cases h;exact hK _ (.bptr _ _ _ _ _ hn)
  ·rename_i hn;cases h;exact hK _ (.eptr _ _ _ _ _ _ _ hn)
 case fld agg sz off x=>
  simp only[cV,jW,tz,KW,jX,tn,tA,tv,tw,tm,tq,jY,fa,KO,KV,tt,KU,KR,tu,tr,KQ,KS,KP,JM,KT]at h;simp only[aj];have hx:=aV hσ x;generalize ev σe x=a at h hx;generalize ev σ x=b at hx;cases hx<;>try (cases h;done)
  rename_i cs ds hl hc;dsimp only at h ⊢;split at h
  ·rename_i hb;cases h;exact⟨by rw[<-hl];exact hb,hK _ (RR ⟨hl,hc⟩ _ _ _)⟩
  ·cases h
 case iaddr n x i=>
  simp only[cV,jW,tz,KW,jX,tn,tA,tv,tw,tm,tq,jY,fa,KO,KV,tt,KU,KR,tu,tr,KQ,KS,KP,JM,KT]at h;simp only[aj];have hi:=aV hσ i;generalize ev σe i=a at h hi;generalize ev σ i=b at hi;cases hi<;>try (cases h;done)
  rename_i v;cases v<;>try (cases h;done)
  rename_i k;dsimp only at h ⊢;have hx:=aV hσ x;generalize ev σe x=a at h hx;generalize ev σ x=b at hx;cases hx<;>try (cases h;done)
  ·rename_i n' cs ds hl hc;dsimp only at h ⊢;split at h
   ·rename_i hb;simp only[qzZ,decide_eq_true_eq]at hb;split at h
    ·rename_i d0 hd0;split at h
     ·rename_i hk;cases h;obtain⟨d1,hd1,hr⟩:=RepL.get ⟨hl,hc⟩ hd0;have hlt:=(qzV.1 hd1).1;refine⟨Nat.eq_of_beq_eq_true hb.1,hb.2,by omega,λd hd=>?_⟩;rw[hd1]at hd;cases hd;exact hK _ (.cptr _ _ _ (hr.cells hk).1 (hr.cells hk).2)
     ·cases h
    ·cases h
   ·cases h
  ·rename_i id m x b hn;dsimp only at h ⊢;split at h
   ·rename_i x' el n' es hg;split at h
    ·rename_i hb;simp only[qzZ,decide_eq_true_eq]at hb;cases h;obtain⟨r',h1,h2⟩:=hH _ _ hg;rw[h1];cases h2 with
     | row m' el w' cs ds y b2 hm hc=>
       have e:=Nat.eq_of_beq_eq_true hb.1.1.2;subst e;have ex:=Ft hb.1.1.1 hm hn;subst ex;exact⟨rfl,rfl,hb.1.2,by rw[<-hc.1];exact hb.2,hK _ (.eptr _ _ _ _ _ _ _ hn)⟩
    ·cases h
   ·cases h
  ·rename_i id m w lo hi x b hn;dsimp only at h ⊢;split at h
   ·rename_i hb;simp only[qzZ,decide_eq_true_eq]at hb;cases h;exact⟨Nat.eq_of_beq_eq_true hb.1.1,hb.1.2,hb.2,hK _ (.eptr _ _ _ _ _ _ _ hn)⟩
   ·cases h
 case sidx x i=>
  simp only[cV,jW,tz,KW,jX,tn,tA,tv,tw,tm,tq,jY,fa,KO,KV,tt,KU,KR,tu,tr,KQ,KS,KP,JM,KT]at h;simp only[aj];have hi:=aV hσ i;generalize ev σe i=a at h hi;generalize ev σ i=b at hi;cases hi<;>try (cases h;done)
  rename_i v;cases v<;>try (cases h;done)
  rename_i k;dsimp only at h ⊢;have hx:=aV hσ x;generalize ev σe x=a at h hx;generalize ev σ x=b at hx;cases hx<;>try (cases h;done)
  rename_i v;cases v<;>try (cases h;done)
  rename_i s;dsimp only at h ⊢;split at h
  ·rename_i h0;simp only[decide_eq_true_eq]at h0;simp only[qz6]at h;obtain⟨c,hc,rfl⟩:=h;have hlt:k.toNat<s.size:=(qz3.1 hc).1;refine⟨h0,by omega,λc' hc'=>?_⟩;rw[hc]at hc';cases hc';exact hK _ (.v _)
  ·cases h
 case ext x i=>
  simp only[cV,jW,tz,KW,jX,tn,tA,tv,tw,tm,tq,jY,fa,KO,KV,tt,KU,KR,tu,tr,KQ,KS,KP,JM,KT]at h;simp only[aj];have hx:=aV hσ x;generalize ev σe x=a at h hx;generalize ev σ x=b at hx;cases hx<;>try (cases h;done)
  rename_i cs ds hl hc;dsimp only at h ⊢;obtain⟨d1,hd1,hr⟩:=RepL.get ⟨hl,hc⟩ h;rw[hd1];exact hK _ hr
 case len x=>
  simp only[cV,jW,tz,KW,jX,tn,tA,tv,tw,tm,tq,jY,fa,KO,KV,tt,KU,KR,tu,tr,KQ,KS,KP,JM,KT]at h;simp only[aj];have hx:=aV hσ x;generalize ev σe x=a at h hx;generalize ev σ x=b at hx;cases hx<;>try (cases h;done)
  ·rename_i v;cases v<;>try (cases h;done)
   cases h;exact hK _ (.v _)
  ·rename_i n' cs ds hl hc;cases h;dsimp only;rw[hl]at hK;exactλ_=>hK _ (.v _)
  ·rename_i id m x b hn;dsimp only at h ⊢;split at h
   ·rename_i x' el n' es hg;split at h
    ·rename_i hb;cases h;obtain⟨r',h1,h2⟩:=hH _ _ hg;rw[h1];cases h2 with
     | row m' el w' cs ds y b2 hm hc=>
       have ex:=Ft hb hm hn;subst ex;rw[hc.1]at hK;exact⟨rfl,λ_=>hK _ (.v _)⟩
    ·cases h
   ·cases h
  ·cases h;exactλ_=>hK _ (.v _)
 case slen x=>
  simp only[cV,jW,tz,KW,jX,tn,tA,tv,tw,tm,tq,jY,fa,KO,KV,tt,KU,KR,tu,tr,KQ,KS,KP,JM,KT]at h;simp only[aj];have hx:=aV hσ x;generalize ev σe x=a at h hx;generalize ev σ x=b at hx;cases hx<;>try (cases h;done)
  rename_i v;cases v<;>try (cases h;done)
  cases h;exactλ_=>hK _ (.v _)
 case rstr x=>
  simp only[cV,jW,tz,KW,jX,tn,tA,tv,tw,tm,tq,jY,fa,KO,KV,tt,KU,KR,tu,tr,KQ,KS,KP,JM,KT]at h;simp only[aj];have hx:=aV hσ x;generalize ev σe x=a at h hx;generalize ev σ x=b at hx;cases hx<;>try (cases h;done)
  rename_i v;cases v<;>try (cases h;done)
  cases h;exact hK _ (.v _)
 case srunes x=>
  simp only[cV,jW,tz,KW,jX,tn,tA,tv,tw,tm,tq,jY,fa,KO,KV,tt,KU,KR,tu,tr,KQ,KS,KP,JM,KT]at h;simp only[aj];have hx:=aV hσ x;generalize ev σe x=a at h hx;generalize ev σ x=b at hx;cases hx<;>try (cases h;done)
  rename_i v;cases v<;>try (cases h;done)
  dsimp only at h ⊢;split at h
  ·rename_i hs;cases h;refine⟨hs,hK _ (.list _ _ _ rfl (RepL.same λd hd=>?_).2)⟩;obtain⟨y,_,rfl⟩:=qz1.1 hd;exact .v _
  ·cases h
 case sbytes x=>
  simp only[cV,JM]at h;simp only[aj];have hx:=aV hσ x;generalize ev σe x=a at h hx;generalize ev σ x=b at hx;cases hx<;>try (cases h;done)
  rename_i v;cases v<;>try (cases h;done)
  cases h;refine hK _ (.list _ _ _ rfl (RepL.same λd hd=>?_).2);obtain⟨y,_,rfl⟩:=qz1.1 hd;exact .v _
 case mm mx xs=>
  match xs,h with
  | [x,y],h=>
    simp only[cV,jW,tz,KW,jX,tn,tA,tv,tw,tm,tq,jY,fa,KO,KV,tt,KU,KR,tu,tr,KQ,KS,KP,JM,KT]at h;simp only[aj];have hx:=aV hσ x;have hy:=aV hσ y;generalize ev σe x=a at h hx;generalize ev σ x=b at hx;generalize ev σe y=a' at h hy;generalize ev σ y=b' at hy;cases hx<;>try (cases h;done)
    rename_i v;cases v<;>try (cases h;done)
    cases hy<;>try (cases h;done)
    rename_i v;cases v<;>try (cases h;done)
    dsimp only at h ⊢;split at h
    ·rename_i hk;cases h;exact⟨hk,hK _ (.v _)⟩
    ·cases h
end
end X
end Go.Gv
