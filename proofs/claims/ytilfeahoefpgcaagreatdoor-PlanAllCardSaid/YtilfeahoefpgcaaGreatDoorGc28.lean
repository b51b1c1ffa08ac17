/- Asm32 -/
import Derived.Test.YtilfeahoefpgcaaGreatDoorGc27
set_option linter.all false
set_option maxRecDepth 100000
namespace Go.Gv
open Go.Proofs Cod
variable {dq:Prop}
def qnq{p:Cond}(h:dn p<=0):False:=by rw[G8]at h;omega
def Je:TQ dq kU xS:=
 ac (ag ae) Ga (QU)
def Ye:TQ dq uS FV:=
 ac (ag (aa Je ae)) Jy (TS rfl)
def J6:TQ dq ct ud:=
 ac (ag (aa Je (aa Ye ae))) ya (Hw rfl rfl)
def Mm:∀n,TQ dq uN (ZV n)
 | 0=>bC λx h=>qnq h
 |n+1=>bY (ag (aa (Mm n) ae)) Vy (λ_=>qzU rfl) (XR n rfl)
def Yc:TQ dq uN ZW:=
 tri_ex (λn=>Mm n) (fb (λx _=>⟨dn x.1,qzX _⟩))
def Ul:TQ dq BN Jm:=
 ac (ag (aa Yc ae)) R3 (TH rfl)
def FZ:∀n,TQ dq oY (UU n)
 | 0=>bC λx h=>YP h.1
 |n+1=>bY (ag (aa Ul (aa (FZ n) ae))) ON (λ_=>qzU rfl) (QM n rfl rfl)
def Q9:TQ dq oY Pz:=
 tri_ex (λn=>FZ n) (fb (λx h=>⟨dc x.1,qzX _,h⟩))
def Jt:∀n,TQ dq rL (ZZ n)
 | 0=>bC λx h=>YP h
 |n+1=>bY (ag (aa J6 (aa (Jt n) ae))) R5 (λ_=>qzU rfl) (TI n rfl rfl)
def Um:TQ dq rL UW:=
 tri_ex (λn=>Jt n) (fb (λx _=>⟨dc x,qzX _⟩))
def Dl:∀n,TQ dq mH (PB n)
 | 0=>bC λx h=>YP h
 |n+1=>bY (ag (aa (Dl n) ae)) Mu (λ_=>qzU rfl) (Oh n rfl)
def OE:TQ dq mH L3:=
 tri_ex (λn=>Dl n) (fb (λx _=>⟨dc x,qzX _⟩))
def mR:TQ dq dE cY:=
 ac (ag (aa Q9 (aa Um (aa OE ae)))) H7 (JO rfl rfl rfl)
def Ml:∀n,TQ dq uM (Rz n)
 | 0=>bC λx h=>YP h.1
 |n+1=>bY (ag (aa (Ml n) ae)) Vw (λ_=>qzU rfl) (XP n rfl)
def Ya:TQ dq uM Cv:=
 tri_ex (λn=>Ml n) (fb (λx h=>⟨dc x,qzX _,h⟩))
def Js:∀n,TQ dq iy (K1 n)
 | 0=>bC λx h=>YP h.1
 |n+1=>bY (ag (aa (Js n) ae)) R2 (λ_=>qzU rfl) (TG n rfl)
def Uk:TQ dq iy FK:=
 tri_ex (λn=>Js n) (fb (λx h=>⟨dc x,qzX _,h⟩))
def F0:∀n,TQ dq iR (V9 n)
 | 0=>rA λd ds H K ⟨id,v,l,a,x,h1,h2,h3,h4,h5⟩=>YP h4.1
 |n+1=>yB (ag (aa (F0 n) ae)) Dp (by decide) (QN n rfl)
def A1:Tri dq Tryz.prog iR i_leavesA.pt:=tri_ex (λn=>F0 n) λd ds H K ⟨id,v,l,a,x,h1,h2,h3,h4,h5⟩=>⟨dc x,id,v,l,a,x,h1,h2,h3,⟨qzX _,h4⟩,h5⟩
def Ra:Tri dq Tryz.prog iR s_leaves.pt:=LE (Cu (ag (aa A1 ae)) Dp (λ_=>qzU rfl) (Oi rfl)) A1
def Rb:TQ dq tI FQ:=
 ac (ag (aa mR (aa Ra ae))) OO (QO rfl rfl)
def Yb:TQ dq zC D4:=
 ac (ag (aa mR (aa Ya ae))) Vx (XQ rfl rfl)
def Un:TQ dq rM Cy:=
 ac (ag (aa mR (aa Uk ae))) R6 (TJ rfl rfl)
def Re:TQ dq tK FR:=
 ac (ag (aa wv (aa yz ae))) OZ (QZ rfl rfl)
def X8:TQ dq ED LZ:=
 ac (ag ae) Vu (XN)
def X9:TQ dq zA L0:=
 ac (ag ae) Vv (XO)
def Q8:TQ dq tH FL:=
 ac (ag (aa X9 ae)) OL (QJ rfl)
def Jr:∀n,TQ dq ix (Jl n)
 | 0=>bC λx h=>YP h.1.1
 |n+1=>bY (ag (aa Q8 (aa Un (aa Rb (aa (Jr n) ae))))) RZ (λ_=>qzU rfl) (TF n rfl rfl rfl rfl)
def Ui:TQ dq ix FM:=
 tri_ex (λn=>Jr n) (fb (λx h=>h))
def Uj:TQ dq BM FN:=
 ac (ag (aa mR (aa Yb (aa Ui ae)))) R1 (QK rfl rfl rfl)
def xK:TQ dq dU lC:=
 ac (ag ae) Gf (HC)
def A0:TQ dq gd Dk:=
 DX (ag ae) AE (λ_=>qzU rfl) (AT)
def xH:TQ dq eL xT:=
 DX (ag ae) wP (λ_=>qzU rfl) (xD)
def DV:TQ dq fA mW:=
 ac (ag (aa wn (aa G7 ae))) ok_estimate_compare (DN rfl rfl)
theorem wt:Tri dq Tryz.prog gB s_SortFunc_Source.pt:=by
 have h:=Rg (dq:=dq) (hTb:=rfl) (cf:=tg) (el:=aK) Tryz.sortSource rfl qyx 2 (λ_=>rfl) (λ_=>rfl) (λx v hv=>by simp[qyx]at hv;rcases hv with rfl|rfl<;>exact⟨rfl,λs h=>by cases h⟩) Tryz.isAgg59 Tryz.sizeOf59
  qlK (λx y h1 h2=>by rw[zt]at h1 h2;simp at h1 h2;rcases K7 x y with h|h|h<;>first|exact h|exact absurd h h1|exact absurd h h2) DV ok_estimate_compare.enter (ir Tryz.func122 (by kernel_rfl) rfl)
 refine Ut h (λx l hp=>hp) (λx l r hp hq=>?_);have hq:r=l.mergeSort λx y=>!(ltOf tg) y x:=hq
 subst hq;refine⟨by simp,λx=>by simp[List.mem_mergeSort],?_⟩;have:=List.pairwise_mergeSort (le:=λx y=>!(ltOf tg) y x) (λa b c h1 h2=>by simp only[zt]at*;simp at*;unfold AP at*;omega) (λa b=>by simp only[zt];simp;unfold AP;omega) l;refine qA1.2 λi j hi hj hij=>?_
 have h:=qA1.1 this i j hi hj hij;generalize (l.mergeSort λx y=>!(ltOf tg) y x)[i]=a at h ⊢;generalize (l.mergeSort λx y=>!(ltOf tg) y x)[j]=b at h ⊢;rw[zt]at h;simpa using h
def Fu:Tri dq Tryz.prog oU s_Sort_int.pt:=Ur Tryz.sortInt rfl (ir Tryz.func72 (by kernel_rfl) rfl)
def HL:TQ dq ia qa:=
 ac (ag (aa Dg (aa xK (aa Fu (aa A0 ae))))) Ge (HB rfl rfl rfl rfl)
def xX:∀n,TQ dq aM (K2 n)
 | 0=>rA λd ds H K ⟨id,b,x,z,ds',h1,h2,h3,h4,h5,hp,h7⟩=>YP hp.1.1
 |n+1=>DY (by decide) (S:=Jh [(gD,Cy),(dU,lC),(ia,qa),(aM,K2 n)]) (ag (aa Dg (aa xK (aa HL (aa (xX n) ae))))) wR (λ_=>qzU rfl) (HA n rfl rfl rfl rfl)
def xL:Tri dq Tryz.prog aM s_visitA.pt:=tri_ex (λn=>xX n) λd ds H K ⟨id,b,x,z,ds',h1,h2,h3,h4,h5,⟨n,hp⟩,h7⟩=>⟨n,id,b,x,z,ds',h1,h2,h3,h4,h5,hp,h7⟩
def xM:TQ dq lK qb:=
 ac (ag (aa Re (aa xL (aa wt (aa xH ae))))) Gg (HD rfl rfl rfl rfl)
end Go.Gv
namespace Go.Gv
open Go.Proofs
open Cod (enc dec)
variable {dq:Prop}
section
variable {X Y Z:Type}
variable {P:Program}{S:Nat->Spc}{f:Nat}{im:List Nat}{cc:CC}{rs:List ak}{N:Nat}
end
end Go.Gv
namespace Go.Gv
open Go.Proofs
open Cod (enc dec)
variable {S S0:Nat->Spc}
end Go.Gv
namespace Go.Gv
open Go.Proofs
def HT{x:Cond}(h:tC x=false):x.op≠4/\∀k∈x.kids,tC k=false:=by
 rw[Rv,Bool.or_eq_false_iff]at h;refine⟨λe=>by simp[e]at h,λk hk=>?_⟩;cases hs:tC k with
 |false=>rfl
 | true=>
   have:=qA4.2 ⟨k,hk,hs⟩;rw[h.2]at this;cases this
mutual
def BH:∀x:Cond,tC x=false->jE x=x
 | .mk op n a v l f ks,h=>by
   have h2:=HT h;have h4:¬op=4:=h2.1;rw[jE,if_neg (by simp[h4,h]),P8 ks h2.2]
def P8:∀ks:List Cond,(∀k∈ks,tC k=false)->BI ks=ks
 | [],_=>rfl
 |k::ks,h=>by rw[BI,BH k (h k (by simp)),P8 ks λk hk=>h k (by simp[hk])]
end
mutual
def qat:∀x:Cond,gK (jE x)<=gK x/\dn (jE x)<=dn x
 | .mk op n a v l f ks=>by
   rw[jE];have:=VF ks;split
   ·simp only[gK,eW,dn,iz];omega
   ·simp only[gK,dn];omega
def VF:∀ks:List Cond,eW (BI ks)<=eW ks/\iz (BI ks)<=iz ks
 | []=>by simp[BI]
 | k::ks=>by
   have:=qat k;have:=VF ks;simp only[BI,eW,iz];omega
end
inductive GL:Nat->Cond->Prop
 |atom (n:Nat) (c:Cond) (h:GA [] c):GL n c
 |any (n:Nat):GL n ⟨1,E0,E0,E0,E0,false, []⟩
 |top (n:Nat) (v:B) (f:Bool) (h:v∈ValsT):GL n ⟨2,E0,E0,v,E0,f, []⟩
 |not (n:Nat) (k:Cond) (h:GL n k):GL (n+1) ⟨6,E0,E0,E0,E0,false, [k]⟩
 |two (n:Nat) (op:Int) (a b:Cond) (ho:op=7\/op=8) (h1:GL n a) (h2:GL n b):GL (n+1) ⟨op,E0,E0,E0,E0,false, [a,b]⟩
def qgc{lb:List B}{c:Cond}(h:GA lb c)(hs:tC c=false):GA [] c:=by
 cases h with
 |val n v f h1 h2=>exact .val n v f h1 h2
 |feat v h=>exact .feat v h
 |same n l a h1 h2 h3=>exact absurd rfl (HT hs).1
 |reg n h=>exact .reg n h
 |regk n v h1 h2=>exact .regk n v h1 h2
def La{lb:List B} :∀{n:Nat} {x:Cond},GI lb n x->tC x=false->GL n x
 | _,_, .atom n c h,hs=> .atom n c (qgc h hs)
 | _,_, .not n k h,hs=> .not n k (La h ((HT hs).2 k (by simp)))
 | _,_, .two n op a b ho h1 h2,hs=> .two n op a b ho (La h1 ((HT hs).2 a (by simp))) (La h2 ((HT hs).2 b (by simp)))
def qay{x:Cond}(h:x.op=4\/x.op=6/\tC x=true):jE x=⟨1,E0,E0,E0,E0,false, []⟩:=by rw[K8,if_pos h];rfl
def qjq{op:Int}{a b:Cond}(ho:op=7\/op=8):jE ⟨op,E0,E0,E0,E0,false, [a,b]⟩=⟨op,E0,E0,E0,E0,false, [jE a,jE b]⟩:=by
 rw[K8,if_neg (by
  rintro(h|⟨h,_⟩)
  ·rcases ho with rfl|rfl<;>cases h
  ·rcases ho with rfl|rfl<;>cases h)]
 rfl
def qf6{lb:List B} :∀{n:Nat} {x:Cond},GI lb n x->GL n (jE x)
 | _,_, .atom n c h=>by
   cases hs:tC c with
   |false=>rw[BH c hs];exact .atom n c (qgc h hs)
   | true=>
     have h4:c.op=4:=by
      rw[Rv,zx h]at hs;simpa using hs
     rw[qay (.inl h4)];exact .any n
 | _,_, .not n k h=>by
   cases hs:tC ⟨6,E0,E0,E0,E0,false, [k]⟩with
   |false=>rw[BH _ hs];exact .not n k (La h ((HT hs).2 k (by simp)))
   |true=>rw[qay (.inr ⟨rfl,hs⟩)];exact .any _
 | _,_, .two n op a b ho h1 h2=>by
   rw[qjq ho];exact .two n op _ _ ho (qf6 h1) (qf6 h2)
def qp7{lb:List B}{n:Nat}{x:Cond}(h:GC lb n x):GL n (jE x):=by
 cases h with
 |any=>rw[BH _ rfl];exact .any n
 |top v f h=>rw[BH _ rfl];exact .top n v f h
 |inner c h=>exact qf6 h
def qaI{E:Pj}(hE:XG E)(hlb:E.lb=[]):∀{n m:Nat} {x:Cond},GL n x->n<m->∃y,vK E m x=some y
 | _,m+1,_, .atom n c h,_=>qk4 hE (hlb ▸h)
 | _,m+1,_, .any n,_=>qfU hE (n:=0) .any (by omega)
 | _,m+1,_, .top n v f h,_=>qfU hE (n:=0) (.top v f h) (by omega)
 | _,m+1,_, .not n k h,hm=>by
   obtain⟨y,hy⟩:=qaI (m:=m) hE hlb h (by omega);exact⟨_,qfT hy⟩
 | _,m+1,_, .two n op a b ho h1 h2,hm=>by
   obtain⟨p,hp⟩:=qaI (m:=m) hE hlb h1 (by omega);obtain⟨q,hq⟩:=qaI (m:=m) hE hlb h2 (by omega);rcases ho with rfl|rfl
   ·exact⟨_,qfV hp hq⟩
   ·exact⟨_,qk3 hp hq⟩
def Gl:∀{n m:Nat} {x:Cond},GL n x->n<m->rH gI [] m x=true
 | _,m+1,_, .atom n c h,_=>zn (qas h) (zx h)
 | _,m+1,_, .any n,_=>MN (n:=0) .any (by omega)
 | _,m+1,_, .top n v f h,_=>MN (n:=0) (.top v f h) (by omega)
 | _,m+1,_, .not n k h,hm=>P1 (Gl h (by omega))
 | _,m+1,_, .two n op a b ho h1 h2,hm=>P0 ho (Gl h1 (by omega)) (Gl h2 (by omega))
open Cod (enc dec)
variable {S S0:Nat->Spc}
def qeb{c:Corpus}(hc:OkCorp c){lb:List B}{n:Nat}{x:Cond}(hx:GC lb n x)(hn:n<=3):Hg (c,x):=by
 have hgl:=qp7 hx;have hn1:=qgb hx;have hn2:=qat x;have h3:2^ (n+1)<=2^4:=Nat.pow_le_pow_right (by decide) (by omega);have hE0:∀i:Nat,i<c.toks.length->XG ⟨c,(i:Int), [], []⟩:=λi hi=>⟨hc,by show(0:Int)<=(i:Int);omega,by show(i:Int)<c.toks.length;omega,rfl⟩
 exact⟨hc.sz,by show gK x<=60;omega,by show dn x<=60;omega,by
  show qhZ c.attrs [] (jE x)=true;rw[show c.attrs=gI from hc.1];exact qfd (by omega) (by omega) (Gl hgl (by omega)),λi hi=>qaI (hE0 i hi) rfl hgl (by omega)⟩
def NR{n:Nat}{c:Corpus}{q:Qry}(hc:qbp c)(hq:GQ n q)(hn:n<=5):ws qdf c q/\jq q.pat<=1000:=by
 have hM:=qfB hc hq hn;obtain⟨lb,hl,hw⟩:=hq.lab;have h1:=qlp n q.pat hw;have h2:2^n<=32:=by
  rcases n with _|_|_|_|_|_|n
  all_goals first|decide|omega
 refine⟨⟨hM.v,hM.v.pat,hM.v.size,⟨hM.v.num,by omega⟩,⟨?_,λx hx=>(hM.v.lv x hx).2⟩,by have:=hc.few;omega,λx hx=>qeb hc.ok (hq.cond x hx) (by decide)⟩,by omega⟩;have:=qw q.pat;have:=hM.v.num;simp;omega
end Go.Gv
namespace Go.Gv
namespace X
abbrev VL:=List (Value×Nat)
abbrev nm(n:Nat):Value:= .int .i64 n
inductive Rep (ρ:VL):D->D->Prop
 |any (d:D):Rep ρ .any d
 |undef:Rep ρ .undef .undef
 |v (x:Value):Rep ρ (.v x) (.v x)
 |agg (cs ds:List D) (hl:cs.length=ds.length) (h:∀(k:Nat) (c d:D),cs[k]? =some c->ds[k]? =some d->Rep ρ c d):Rep ρ (.agg cs) (.agg ds)
 |tup (cs ds:List D) (hl:cs.length=ds.length) (h:∀(k:Nat) (c d:D),cs[k]? =some c->ds[k]? =some d->Rep ρ c d):Rep ρ (.tup cs) (.tup ds)
 |list (n:Nat) (cs ds:List D) (hl:cs.length=ds.length) (h:∀(k:Nat) (c d:D),cs[k]? =some c->ds[k]? =some d->Rep ρ c d):Rep ρ (.list n cs) (.list n ds)
 |cptr (cs ds:List D) (off:Nat) (hl:cs.length=ds.length) (h:∀(k:Nat) (c d:D),cs[k]? =some c->ds[k]? =some d->Rep ρ c d):Rep ρ (.cptr cs off) (.cptr ds off)
 |clo (f:Nat) (cs ds:List D) (hl:cs.length=ds.length) (h:∀(k:Nat) (c d:D),cs[k]? =some c->ds[k]? =some d->Rep ρ c d):Rep ρ (.clo f cs) (.clo f ds)
 |own (id n:Nat) (x:Value) (b:Nat) (h:ρ[n]? =some (x,b)):Rep ρ (.own id (nm n)) (.own id x)
 |bptr (id n off:Nat) (x:Value) (b:Nat) (h:ρ[n]? =some (x,b)):Rep ρ (.bptr id n off) (.bptr id b off)
 |eptr (id n w i off:Nat) (x:Value) (b:Nat) (h:ρ[n]? =some (x,b)):Rep ρ (.eptr id (nm n) w i off) (.eptr id x w i off)
 |sub (id n w lo hi:Nat) (x:Value) (b:Nat) (h:ρ[n]? =some (x,b)):Rep ρ (.sub id (nm n) w lo hi) (.sub id x w lo hi)
def RepL(ρ:VL)(cs ds:List D):Prop:=cs.length=ds.length/\∀(k:Nat) (c d:D),cs[k]? =some c->ds[k]? =some d->Rep ρ c d
inductive RepR (ρ:VL):Res->Res->Prop
 |box (n:Nat) (cs ds:List D) (x:Value) (b:Nat) (h:ρ[n]? =some (x,b)) (hc:RepL ρ cs ds):RepR ρ (.box n cs) (.box b ds)
 |row (n el w:Nat) (cs ds:List D) (x:Value) (b:Nat) (h:ρ[n]? =some (x,b)) (hc:RepL ρ cs ds):RepR ρ (.row (nm n) el w cs) (.row x el w ds)
 |iter (n:Nat) (s:ByteArray) (p:Nat) (x:Value) (b:Nat) (h:ρ[n]? =some (x,b)):RepR ρ (.iter n s p) (.iter b s p)
theorem Rep.mono{ρ ρ':VL}(hp:ρ <+:ρ'){c d:D}(h:Rep ρ c d):Rep ρ' c d:=by
 have up:∀{n:Nat} {y:Value×Nat},ρ[n]? =some y->ρ'[n]? =some y:=λ{n y} h=>by
  obtain⟨l,rfl⟩:=hp;rw[qz7 (qzP.1 h).1];exact h
 induction h with
 |any d=>exact .any d
 |undef=>exact .undef
 |v x=>exact .v x
 |agg cs ds hl _ ih=>exact .agg cs ds hl ih
 |tup cs ds hl _ ih=>exact .tup cs ds hl ih
 |list n cs ds hl _ ih=>exact .list n cs ds hl ih
 |cptr cs ds off hl _ ih=>exact .cptr cs ds off hl ih
 |clo f cs ds hl _ ih=>exact .clo f cs ds hl ih
 |own id n x b h=>exact .own id n x b (up h)
 |bptr id n off x b h=>exact .bptr id n off x b (up h)
 |eptr id n w i off x b h=>exact .eptr id n w i off x b (up h)
 |sub id n w lo hi x b h=>exact .sub id n w lo hi x b (up h)
def RepL.mono{ρ ρ':VL}(hp:ρ <+:ρ'){cs ds:List D}(h:RepL ρ cs ds):RepL ρ' cs ds:=⟨h.1,λk c d h1 h2=>(h.2 k c d h1 h2).mono hp⟩
def RepR.mono{ρ ρ':VL}(hp:ρ <+:ρ'){r s:Res}(h:RepR ρ r s):RepR ρ' r s:=by
 have up:∀{n:Nat} {y:Value×Nat},ρ[n]? =some y->ρ'[n]? =some y:=λ{n y} h=>by
  obtain⟨l,rfl⟩:=hp;rw[qz7 (qzP.1 h).1];exact h
 cases h with
 |box n cs ds x b h hc=>exact .box n cs ds x b (up h) (hc.mono hp)
 |row n el w cs ds x b h hc=>exact .row n el w cs ds x b (up h) (hc.mono hp)
 |iter n s p x b h=>exact .iter n s p x b (up h)
section
variable {ρ:VL}
def RepL.nil:RepL ρ [] []:=⟨rfl,λk c d h=>by simp at h⟩
def RepL.cons{c d:D}{cs ds:List D}(h:Rep ρ c d)(hl:RepL ρ cs ds):RepL ρ (c::cs) (d::ds):=⟨by simp[hl.1],λk a b h1 h2=>by
 cases k with
 |zero=>simp at h1 h2;subst h1;subst h2;exact h
 |succ k=>simp at h1 h2;exact hl.2 k a b h1 h2⟩
def RepL.get{cs ds:List D}(h:RepL ρ cs ds){k:Nat}{c:D}(hc:cs[k]? =some c):∃d,ds[k]? =some d/\Rep ρ c d:=by
 have hk:k<ds.length:=by rw[<-h.1];exact(qzP.1 hc).1
 exact⟨ds[k],qzR hk,h.2 k c _ hc (qzR hk)⟩
def RepL.append{a b c d:List D}(h:RepL ρ a b)(k:RepL ρ c d):RepL ρ (a++c) (b++d):=⟨by simp[h.1,k.1],λi x y h1 h2=>by
 by_cases hi:i<a.length
 ·rw[qz7 hi]at h1;rw[qz7 (by rw[<-h.1];exact hi)]at h2;exact h.2 i x y h1 h2
 ·rw[qz3 (by omega)]at h1;rw[qz3 (by rw[<-h.1];omega),<-h.1]at h2;exact k.2 _ x y h1 h2⟩
def RepL.take{a b:List D}(h:RepL ρ a b)(n:Nat):RepL ρ (a.take n) (b.take n):=⟨by simp[h.1],λi x y h1 h2=>by
 rw[qz9]at h1 h2;split at h1
 ·rename_i hi;rw[if_pos hi]at h2;exact h.2 i x y h1 h2
 ·cases h1⟩
def RepL.drop{a b:List D}(h:RepL ρ a b)(n:Nat):RepL ρ (a.drop n) (b.drop n):=⟨by simp[h.1],λi x y h1 h2=>by
 rw[qAy]at h1 h2;exact h.2 _ x y h1 h2⟩
def RepL.set{a b:List D}(h:RepL ρ a b){n:Nat}{c d:D}(hc:Rep ρ c d):RepL ρ (a.set n c) (b.set n d):=⟨by simp[h.1],λi x y h1 h2=>by
 rw[List.getElem?_set]at h1 h2;split at h1
 ·rename_i e;rw[if_pos e]at h2;rw[h.1]at h1;split at h1
  ·rename_i hl;rw[if_pos hl]at h2;cases h1;cases h2;exact hc
  ·cases h1
 ·rename_i e;rw[if_neg e]at h2;exact h.2 i x y h1 h2⟩
def RepL.same:∀{l:List D},(∀d∈l,Rep ρ d d)->RepL ρ l l
 | [],_=> .nil
 |d::l,h=> .cons (h d (by simp)) (RepL.same λd hd=>h d (by simp[hd]))
def RepL.rep{c d:D}(h:Rep ρ c d):∀n,RepL ρ (List.replicate n c) (List.replicate n d)
 | 0=> .nil
 |n+1=> .cons h (RepL.rep h n)
def RT(x:Value):Rep ρ (qG x) (qG x):=by
 cases x<;>first|exact .v _|exact .any _
def Mj(z:List Value):RepL ρ (z.map qG) (z.map qG):=RepL.same λd hd=>by
 obtain⟨x,_,rfl⟩:=qzV.1 hd;exact RT x
def Rep.kn{c d:D}(h:Rep ρ c d)(hk:c.kn=true):d.kn=true:=by
 cases h<;>first|exact hk|rfl|(cases hk)
theorem Rep.cells{c d:D}(h:Rep ρ c d)(hk:c.kn=true):RepL ρ c.cells d.cells:=by
 cases h with
 |agg cs ds hl h=>exact⟨hl,h⟩
 |any d=>cases hk
 |undef=>exact .cons .undef .nil
 |v x=>exact .cons (.v x) .nil
 |tup cs ds hl h=>exact .cons (.tup cs ds hl h) .nil
 |list n cs ds hl h=>exact .cons (.list n cs ds hl h) .nil
 |cptr cs ds off hl h=>exact .cons (.cptr cs ds off hl h) .nil
 |clo f cs ds hl h=>exact .cons (.clo f cs ds hl h) .nil
 |own id n x b h=>exact .cons (.own id n x b h) .nil
 |bptr id n off x b h=>exact .cons (.bptr id n off x b h) .nil
 |eptr id n w i off x b h=>exact .cons (.eptr id n w i off x b h) .nil
 |sub id n w lo hi x b h=>exact .cons (.sub id n w lo hi x b h) .nil
def RS{cs ds:List D}(h:RepL ρ cs ds)(agg:Bool)(sz off:Nat):Rep ρ (Kx agg sz cs off) (Kx agg sz ds off):=by
 unfold Kx;split
 ·exact .agg _ _ ((h.drop off).take sz).1 ((h.drop off).take sz).2
 ·cases hc:cs[off]? with
  |none=>exact .any _
  | some c=>
    obtain⟨d,hd,hr⟩:=h.get hc;rw[hd];exact hr
def H4{a b c d:List D}(h:RepL ρ a b)(k:RepL ρ c d)(off:Nat):RepL ρ (setAt a off c) (setAt b off d):=by
 unfold setAt;rw[<-k.1];exact((h.take off).append k).append (h.drop _)
def qiU{c d:D}(h:Rep ρ c d){p:IntKind×Int}(hp:mz c=some p):d=c:=by
 cases h<;>first|rfl|(simp[mz]at hp)
end
inductive Tr (α:Type) where
 |e
 |n (v:Option α) (l r:Tr α)
namespace Tr
variable {α:Type}
noncomputable def get(t:Tr α):Nat->Option α:=Tr.rec (motive:=λ_=>Nat->Option α) (λ_=>none)
 (λv _ _ gl gr k=>Bool.rec (Bool.rec (gr (Nat.div (Nat.sub k 2) 2)) (gl (Nat.div (Nat.sub k 1) 2)) (Nat.beq (Nat.mod k 2) 1)) v (Nat.beq k 0)) t
def val:Tr α->Option α
 | .e=>none
 | .n v _ _=>v
def lf:Tr α->Tr α
 | .e=> .e
 | .n _ l _=>l
def rt:Tr α->Tr α
 | .e=> .e
 | .n _ _ r=>r
noncomputable def UQ(d:Nat):Tr α->Nat->Option α->Tr α:=Nat.rec (motive:=λ_=>Tr α->Nat->Option α->Tr α) (λ_ _ _=> .e)
 (λ_ ih t k v=>Bool.rec (Bool.rec (.n t.val t.lf (ih t.rt (Nat.div (Nat.sub k 2) 2) v)) (.n t.val (ih t.lf (Nat.div (Nat.sub k 1) 2) v) t.rt) (Nat.beq (Nat.mod k 2) 1)) (.n v t.lf t.rt) (Nat.beq k 0)) d
noncomputable def set(t:Tr α)(k:Nat)(v:α):Tr α:=UQ 14 t k (some v)
noncomputable def del(t:Tr α)(k:Nat):Tr α:=UQ 14 t k none
noncomputable def map(f:α->α)(t:Tr α):Tr α:=Tr.rec (motive:=λ_=>Tr α) .e (λv _ _ l r=> .n (Option.rec none (λa=>some (f a)) v) l r) t
def get_e(k:Nat):get (.e:Tr α) k=none:=rfl
def get_n(v:Option α)(l r:Tr α)(k:Nat):get (.n v l r) k=if k=0 then v else if k % 2=1 then get l ((k -1) /2)else get r ((k -2) /2):=by
 show Bool.rec (motive:=λ_=>Option α) (Bool.rec (motive:=λ_=>Option α) (get r (Nat.div (Nat.sub k 2) 2)) (get l (Nat.div (Nat.sub k 1) 2)) (Nat.beq (Nat.mod k 2) 1)) v (Nat.beq k 0)=_;cases h:Nat.beq k 0 with
 |true=>rw[if_pos (Nat.eq_of_beq_eq_true h)]
 | false=>
   rw[if_neg (Nat.ne_of_beq_eq_false h)];cases h2:Nat.beq (Nat.mod k 2) 1 with
   |true=>rw[if_pos (show k % 2=1 from Nat.eq_of_beq_eq_true h2)];rfl
   |false=>rw[if_neg (show ¬k % 2=1 from Nat.ne_of_beq_eq_false h2)];rfl
def qcR(t:Tr α)(k:Nat):get t k=if k=0 then t.val else if k % 2=1 then get t.lf ((k -1) /2)else get t.rt ((k -2) /2):=by
 cases t with
 |e=>simp[get_e,val,lf,rt]
 |n v l r=>exact get_n v l r k
theorem qlX(d:Nat)(t:Tr α)(k:Nat)(v:Option α):UQ (d+1) t k v=if k=0 then .n v t.lf t.rt else if k % 2=1 then .n t.val (UQ d t.lf ((k -1) /2) v) t.rt else .n t.val t.lf (UQ d t.rt ((k -2) /2) v):=by
 show Bool.rec (motive:=λ_=>Tr α) (Bool.rec (motive:=λ_=>Tr α) (Tr.n t.val t.lf (UQ d t.rt (Nat.div (Nat.sub k 2) 2) v)) (.n t.val (UQ d t.lf (Nat.div (Nat.sub k 1) 2) v) t.rt) (Nat.beq (Nat.mod k 2) 1)) (.n v t.lf t.rt) (Nat.beq k 0)=_;cases h:Nat.beq k 0 with
 |true=>rw[if_pos (Nat.eq_of_beq_eq_true h)]
 | false=>
   rw[if_neg (Nat.ne_of_beq_eq_false h)];cases h2:Nat.beq (Nat.mod k 2) 1 with
   |true=>rw[if_pos (show k % 2=1 from Nat.eq_of_beq_eq_true h2)];rfl
   |false=>rw[if_neg (show ¬k % 2=1 from Nat.ne_of_beq_eq_false h2)];rfl
theorem Gz{v:Option α} :∀(d:Nat) (t:Tr α) (k j:Nat) (r:α),get (UQ d t k v) j=some r->(j=k/\v=some r)\/(j≠k/\get t j=some r)
 | 0,t,k,j,r,h=>by cases h
 | d+1,t,k,j,r,h=>by
   rw[qlX]at h;rw[qcR t j];split at h
   ·rename_i hk;rw[get_n]at h;split at h
    ·rename_i hj;exact .inl ⟨by omega,h⟩
    ·rename_i hj;rw[if_neg hj];exact .inr ⟨by omega,h⟩
   ·split at h
    ·rename_i hk hk2;rw[get_n]at h;split at h
     ·rename_i hj;rw[if_pos hj];exact .inr ⟨by omega,h⟩
     ·rename_i hj;rw[if_neg hj];split at h
      ·rename_i hj2;rw[if_pos hj2];rcases Gz d _ _ _ _ h with⟨e,hv⟩|⟨e,hg⟩
       ·exact .inl ⟨by omega,hv⟩
       ·exact .inr ⟨λe2=>e (by rw[e2]),hg⟩
      ·rename_i hj2;rw[if_neg hj2];exact .inr ⟨λe2=>hj2 (by rw[e2];exact hk2),h⟩
    ·rename_i hk hk2;rw[get_n]at h;split at h
     ·rename_i hj;rw[if_pos hj];exact .inr ⟨by omega,h⟩
     ·rename_i hj;rw[if_neg hj];split at h
      ·rename_i hj2;rw[if_pos hj2];exact .inr ⟨λe2=>hk2 (by rw[<-e2];exact hj2),h⟩
      ·rename_i hj2;rw[if_neg hj2];rcases Gz d _ _ _ _ h with⟨e,hv⟩|⟨e,hg⟩
       ·exact .inl ⟨by omega,hv⟩
       ·exact .inr ⟨λe2=>e (by rw[e2]),hg⟩
def get_set{t:Tr α}{k j:Nat}{v r:α}(h:get (set t k v) j=some r):(j=k/\r=v)\/(j≠k/\get t j=some r):=
 (Gz 14 t k j r h).imp (λh=>⟨h.1,by have:=h.2;simpa using this.symm⟩) id
def get_del{t:Tr α}{k j:Nat}{r:α}(h:get (del t k) j=some r):j≠k/\get t j=some r:=by
 rcases Gz 14 t k j r h with⟨_,h⟩|h
 ·cases h
 ·exact h
def get_map(f:α->α):∀(t:Tr α) (k:Nat),get (map f t) k=(get t k).map f
 | .e,k=>rfl
 | .n v l r,k=>by
   show get (.n (Option.rec none (λa=>some (f a)) v) (map f l) (map f r)) k=_;rw[get_n,get_n];split
   ·cases v<;>rfl
   ·split
    ·exact get_map f l _
    ·exact get_map f r _
end Tr
abbrev HE:=Tr Res
def HRep(ρ:VL)(he:HE)(H:ab):Prop:=∀i r,he.get i=some r->∃r',H i=some r'/\RepR ρ r r'
def SRep(ρ:VL)(σe σ:Sg):Prop:=∀t,Rep ρ (σe t) (σ t)
section
variable {ρ:VL}{σe σ:Sg}{he:HE}{H:ab}
def HRep.mono{ρ':VL}(hp:ρ <+:ρ')(h:HRep ρ he H):HRep ρ' he H:=λi r hi=>by
 obtain⟨r',h1,h2⟩:=h i r hi;exact⟨r',h1,h2.mono hp⟩
def HRep.set{r r':Res}{i:Nat}(h:HRep ρ he H)(hr:RepR ρ r r'):HRep ρ (he.set i r) (ai H i (some r')):=λj s hj=>by
 unfold ai;rcases Tr.get_set hj with⟨rfl,rfl⟩|⟨e,hg⟩
 ·exact⟨r',by rw[if_pos rfl],hr⟩
 ·rw[if_neg e];exact h j s hg
def bh(h:SRep ρ σe σ)(x:Operand):Rep ρ (ev σe x) (ev σ x):=by
 cases x with
 |tmp t=>exact h t
 |const x=>exact RT x
 |global g=>exact .v _
 |func f=>exact .clo _ _ _ rfl (λk c d h=>by simp at h)
def zK(h:SRep ρ σe σ)(l:List Operand):RepL ρ (l.map (ev σe)) (l.map (ev σ)):=by
 induction l with
 |nil=>exact .nil
 |cons x l ih=>exact .cons (bh h x) ih
end
def ZM:Value->Value->Bool
 | .int _ a, .int _ b=>decide (a=b)
 | _,_=>false
def D7(n:Nat):List D->Bool
 | []=>true
 |d::r=>d.kn && Nat.beq d.cells.length n && D7 n r
def Y1:IntKind->Int->Bool
 | .i64,n=>decide (-9223372036854775808<=n) && decide (n<=9223372036854775807)
 | .i32,n=>decide (-2147483648<=n) && decide (n<=2147483647)
 | .i16,n=>decide (-32768<=n) && decide (n<=32767)
 | .i8,n=>decide (-128<=n) && decide (n<=127)
 | .u64,n=>decide (0<=n) && decide (n<=18446744073709551615)
 | .u32,n=>decide (0<=n) && decide (n<=4294967295)
 | .u16,n=>decide (0<=n) && decide (n<=65535)
 | .u8,n=>decide (0<=n) && decide (n<=255)
def Sx{k:IntKind}{n:Int}(h:Y1 k n=true):InR k n:=by
 cases k<;>simpa [Y1,InR]using h
def qnA(op:BinOp)(k:IntKind)(a b:Int):Option Int:=match op with
 | .add=>if Y1 k (a+b)then some (a+b)else none
 | .sub=>if Y1 k (a -b)then some (a -b)else none
 | .mul=>if Y1 k (a*b)then some (a*b)else none
 | .quo=>if decide (b≠0) && Y1 k (a.tdiv b)then some (a.tdiv b)else none
 | .rem=>if b=0 then none else some (a.tmod b)
 | .and=>some (Xo k a b)
 | .or=>some (qoc k a b)
 | .shl=>if 0<=b then some (Rs k a b)else none
 | .shr=>if 0<=b then some (Yt k a b)else none
 | _=>none
def qpS(op:BinOp)(k k':IntKind):Bool:=match op with
 | .shl| .shr=>true
 | _=>decide (k=k')
def Tf(σ:Sg):List (Nat×Nat×Operand)->List D->Option (List D)
 | [],cs=>some cs
 |(off,sz,x)::r,cs=>if(ev σ x).kn && Nat.beq (ev σ x).cells.length sz then Tf σ r (setAt cs off (ev σ x).cells)else none
def qgT(lo hi:Option (Option (IntKind×Int)))(len:Nat):Option (Nat×Nat):=match lo,hi with
 |none,none=>some (0,len)
 |some (some (_,l)),none=>if decide (0<=l) && decide (l<=len)then some (l.toNat,len)else none
 |none,some (some (_,h))=>if decide (0<=h) && decide (h<=len)then some (0,h.toNat)else none
 |some (some (_,l)),some (some (_,h))=>if decide (0<=l) && decide (l<=h) && decide (h<=len)then some (l.toNat,h.toNat)else none
 | _,_=>none
def jT(c x y:D):Option D:=match c with
 | .v (.bool true)=>some x
 | .v (.bool false)=>some y
 | _=>none
def tA(d:D):Option D:=if d.kn then some (.cptr d.cells 0)else none
def KX(n:Nat)(ds:List D):Option D:=if D7 n ds then some (.list n ds)else none
noncomputable def jU(agg:Bool)(sz:Nat)(he:HE)(d:D):Option D:=match d with
 | .cptr cs off=>if off+sz<=cs.length then some (Kx agg sz cs off)else none
 | .bptr id b off=>match he.get id with
   |some (.box b' cs)=>if Nat.beq b' b && decide (off+sz<=cs.length)then some (Kx agg sz cs off)else none
   | _=>none
 | .eptr id x n i off=>match he.get id with
   | some (.row x' _ n' es)=>if ZM x' x && Nat.beq n' n && decide (off+sz<=n)then(match es[i]? with
     |some d=>if d.kn then some (Kx agg sz d.cells off)else none
     |none=>none)else none
   | _=>none
 | _=>none
def tq(d:D):Option D:=match d with
 | .cptr cs off=>some (.cptr cs off)
 | .bptr id b off=>some (.bptr id b off)
 | .eptr id x n i off=>some (.eptr id x n i off)
 | _=>none
def tB(op:BinOp)(x y:D):Option D:=match x,y with
 | .v (.int k a), .v (.int k' b)=>if qpS op k k' then(qnA op k a b).map λn=> .v (.int k n)else none
 | _,_=>none
def tw(op:BinOp)(x y:D):Option D:=match x,y with
 | .v (.int k a), .v (.int k' b)=>if k=k' then(Tc op a b).map λt=> .v (.bool t)else none
 | .v (.string a), .v (.string b)=>(WW op a b).map λt=> .v (.bool t)
 | _,_=>none
def tz(x y:D):Option D:=match x,y with
 | .v (.string a), .v (.string b)=>if a.size+b.size<=1000000000 then some (.v (.string (a++b)))else none
 | _,_=>none
def tn(x:D):Option D:=match x with
 | .v (.bool b)=>some (.v (.bool (!b)))
 | _=>none
def tr(x:D):Option D:=match x with
 | .v (.int k n)=>if Y1 k (0 -n)then some (.v (.int k (0 -n)))else none
 | _=>none
def jV(k:IntKind)(x:D):Option D:=match x with
 | .v (.int _ n)=>some (.v (.int k (k.wrap n)))
 | _=>none
noncomputable def fa(n:Nat)(he:HE)(lo hi:Option (Option (IntKind×Int)))(x:D):Option D:=match x with
 | .list n' es=>if Nat.beq n' n then(qgT lo hi es.length).map λp=> .list n ((es.take p.2).drop p.1)else none
 | .own id x=>match he.get id with
   |some (.row x' _ n' es)=>if ZM x' x && Nat.beq n' n then(qgT lo hi es.length).map λp=> .sub id x n p.1 p.2 else none
   | _=>none
 | _=>none
def KP(lo hi:Option (Option (IntKind×Int)))(x:D):Option D:=match x with
 | .v (.string s)=>(qgT lo hi s.size).map λp=> .v (.string (s.extract p.1 p.2))
 | _=>none
def KW(off:Nat)(x:D):Option D:=match x with
 | .cptr cs o=>some (.cptr cs (o+off))
 | .bptr id b o=>some (.bptr id b (o+off))
 | .eptr id x n i o=>some (.eptr id x n i (o+off))
 | _=>none
def tu(agg:Bool)(sz off:Nat)(x:D):Option D:=match x with
 | .agg cs=>if off+sz<=cs.length then some (Kx agg sz cs off)else none
 | _=>none
noncomputable def KV(n:Nat)(he:HE)(x i:D):Option D:=match i with
 | .v (.int _ k)=>match x with
   | .list n' es=>if Nat.beq n' n && decide (0<=k)then(match es[k.toNat]? with
     |some d=>if d.kn then some (.cptr d.cells 0)else none
     |none=>none)else none
   | .own id x=>match he.get id with
     |some (.row x' _ n' es)=>if ZM x' x && Nat.beq n' n && decide (0<=k) && decide (k<es.length)then some (.eptr id x n k.toNat 0)else none
     | _=>none
   | .sub id x n' lo hi=>if Nat.beq n' n && decide (0<=k) && decide (k<(hi -lo:Nat))then some (.eptr id x n (lo+k.toNat) 0)else none
   | _=>none
 | _=>none
def KS(x i:D):Option D:=match i with
 | .v (.int _ k)=>match x with
   | .v (.string s)=>if decide (0<=k)then(s.data[k.toNat]?).map λc=> .v (.int .u8 c.toNat)else none
   | _=>none
 | _=>none
def tv(x:D)(i:Nat):Option D:=match x with
 | .tup ds=>ds[i]?
 | _=>none
noncomputable def tt(he:HE)(x:D):Option D:=match x with
 | .list _ es=>some (.v (.int .i64 es.length))
 | .own id x=>match he.get id with
   |some (.row x' _ _ es)=>if ZM x' x then some (.v (.int .i64 es.length))else none
   | _=>none
 | .v (.slice _ n _)=>some (.v (.int .i64 n))
 | .sub _ _ _ lo hi=>some (.v (.int .i64 (hi -lo:Nat)))
 | _=>none
def KR(x:D):Option D:=match x with
 | .v (.string s)=>some (.v (.int .i64 s.size))
 | _=>none
def KT(x:D):Option D:=match x with
 | .v (.int _ n)=>some (.v (.string (Utf8.encode n)))
 | _=>none
def KQ(x:D):Option D:=match x with
 | .v (.string s)=>if s.size<=1000000000 then some (.list 1 ((Conv.runesFrom s s.size 0 #[]).toList.map D.v))else none
 | _=>none
def JM(x:D):Option D:=match x with
 | .v (.string s)=>some (.list 1 (s.data.toList.map λc=> .v (.int .u8 c.toNat)))
 | _=>none
def KU(mx:Bool)(x y:D):Option D:=match x,y with
 | .v (.int k a), .v (.int k' b)=>if k=k' then some (.v (.int k (if mx then max a b else min a b)))else none
 | _,_=>none
noncomputable def cW(c:COp)(σ:Sg)(he:HE):Option D:=match c with
 | .mv x=>some (ev σ x)
 | .pick c x y=>jT (ev σ c) (ev σ x) (ev σ y)
 | .box _ true x=>tA (ev σ x)
 | .build z ps=>(Tf σ ps (z.map qG)).map .agg
 | .bslice _ n ps=>KX n (ps.map (ev σ))
 | .load agg sz x=>jU agg sz he (ev σ x)
 | .nilck x=>tq (ev σ x)
 | .arith op x y=>tB op (ev σ x) (ev σ y)
 | .cmp op x y=>tw op (ev σ x) (ev σ y)
 | .eql neg agg ks x y=>(qgx agg ks (ev σ x) (ev σ y)).map λp=> .v (.bool (if neg then !p else p))
 | .scat x y=>tz (ev σ x) (ev σ y)
 | .not x=>tn (ev σ x)
 | .neg x=>tr (ev σ x)
 | .conv k x=>jV k (ev σ x)
 | .clo f caps=>some (.clo f (caps.map (ev σ)))
 | .slice n x lo hi=>fa n he (lo.map λo=>mz (ev σ o)) (hi.map λo=>mz (ev σ o)) (ev σ x)
 | .sslice x lo hi=>KP (lo.map λo=>mz (ev σ o)) (hi.map λo=>mz (ev σ o)) (ev σ x)
 | .faddr off x=>KW off (ev σ x)
 | .fld agg sz off x=>tu agg sz off (ev σ x)
 | .iaddr n x i=>KV n he (ev σ x) (ev σ i)
 | .sidx x i=>KS (ev σ x) (ev σ i)
 | .ext x i=>tv (ev σ x) i
 | .len x=>tt he (ev σ x)
 | .slen x=>KR (ev σ x)
 | .rstr x=>KT (ev σ x)
 | .srunes x=>KQ (ev σ x)
 | .sbytes x=>JM (ev σ x)
 | .mm mx [x,y]=>KU mx (ev σ x) (ev σ y)
 | _=>none
section
variable {ρ:VL}{σe σ:Sg}{he:HE}{H:ab}
def CA{n:Nat} :∀{cs ds:List D},RepL ρ cs ds->D7 n cs=true->jY n ds
 | [], [],_,_=>trivial
 | [],_::_,h,_=>by have:=h.1;simp at this
 | _::_, [],h,_=>by have:=h.1;simp at this
 | c::cs,d::ds,h,hp=>by
   simp only[D7,qzT]at hp;have h0:=h.2 0 c d rfl rfl;have ht:RepL ρ cs ds:=⟨by have:=h.1;simpa using this,λk a b h1 h2=>h.2 (k+1) a b (by simpa using h1) (by simpa using h2)⟩
   refine⟨h0.kn hp.1.1,?_,CA ht hp.2⟩;rw[<- (h0.cells hp.1.1).1];exact Nat.eq_of_beq_eq_true hp.1.2
def Qy(hσ:SRep ρ σe σ){K:List D->Prop} :∀(ps:List (Nat×Nat×Operand)) (cs ds out:List D),RepL ρ cs ds->Tf σe ps cs=some out->(∀ds',RepL ρ out ds'->K ds')->kq σ ps ds K
 | [],cs,ds,out,h,he,hK=>by cases he;exact hK ds h
 | (off,sz,x)::r,cs,ds,out,h,he,hK=>by
  simp only[Tf]at he;split at he
  ·rename_i hc;simp only[qzT]at hc;have hx:=bh hσ x;refine⟨hx.kn hc.1,?_,Qy hσ r _ _ out (H4 h (hx.cells hc.1) off) he hK⟩;rw[<- (hx.cells hc.1).1];exact Nat.eq_of_beq_eq_true hc.2
  ·cases he
def Ti(hσ:SRep ρ σe σ){o:Operand}{p:IntKind×Int}(h:mz (ev σe o)=some p):mz (ev σ o)=some p:=by rw[qiU (bh hσ o) h];exact h
theorem SX(hσ:SRep ρ σe σ){lo hi:Option Operand}{len:Nat}{p:Nat×Nat}(h:qgT (lo.map λo=>mz (ev σe o)) (hi.map λo=>mz (ev σe o)) len=some p){K:Nat->Nat->Prop}(hK:K p.1 p.2):
 pW (lo.map λo=>mz (ev σ o)) (hi.map λo=>mz (ev σ o)) len K:=by
 have key:∀(o:Option Operand),(∃q,(o.map λo=>mz (ev σe o))=some (some q))\/(o.map λo=>mz (ev σe o))=none->(o.map λo=>mz (ev σ o))=o.map λo=>mz (ev σe o):=λo h=>by
  cases o with
  |none=>rfl
  | some o=>
    rcases h with⟨q,h⟩|h
    ·simp only[qBb,qz5]at h ⊢;rw[Ti hσ h,h]
    ·cases h
 unfold qgT at h;split at h
 ·rename_i e1 e2;rw[key lo (.inr e1),key hi (.inr e2),e1,e2];cases h;exact hK
 ·rename_i k l e1 e2;rw[key lo (.inl ⟨_,e1⟩),key hi (.inr e2),e1,e2];split at h
  ·rename_i hc;simp at hc;cases h;exact⟨hc.1,hc.2,hK⟩
  ·cases h
 ·rename_i k l e1 e2;rw[key lo (.inr e1),key hi (.inl ⟨_,e2⟩),e1,e2];split at h
  ·rename_i hc;simp at hc;cases h;exact⟨hc.1,hc.2,hK⟩
  ·cases h
 ·rename_i k l k' l' e1 e2;rw[key lo (.inl ⟨_,e1⟩),key hi (.inl ⟨_,e2⟩),e1,e2];split at h
  ·rename_i hc;simp at hc;cases h;exact⟨hc.1.1,hc.1.2,hc.2,hK⟩
  ·cases h
 ·cases h
def Fp{n m:Nat}{x:Value}{b:Nat}{y:Value}{c:Nat}(h:ZM (nm n) (nm m)=true)(h1:ρ[n]? =some (x,b))(h2:ρ[m]? =some (y,c)):x=y:=by
 simp only[ZM,decide_eq_true_eq]at h;have:n=m:=by omega
 subst this;rw[h1]at h2;cases h2;rfl
def qnz{op:BinOp}{k:IntKind}{a b n:Int}(h:qnA op k a b=some n){K:D->Prop}(hK:K (.v (.int k n))):gP op k a b K:=by
 cases op<;>simp only[qnA]at h<;>try (cases h;done)
 all_goals first
  | (split at h
     ·rename_i hc
      first
      |(cases h;exact⟨Sx hc,hK⟩)
      |(cases h;exact⟨hc,hK⟩)
      |(simp only[qzT,decide_eq_true_eq]at hc;cases h;exact⟨hc.1,Sx hc.2,hK⟩)
      |(cases h;done)
     ·rename_i hc
      first
      |(cases h;done)
      |(cases h;exact⟨hc,hK⟩))
  |(cases h;exact hK)
def qjw{op:BinOp}{k k':IntKind}(h:qpS op k k'=true):qcD op k k':=by
 cases op<;>first|trivial|exact(of_decide_eq_true (p:=k=k') h)
def qaS{k:XF}{a b c d:D}(h1:Rep ρ a c)(h2:Rep ρ b d){p:Bool}(h:Zl k a b=some p):Zl k c d=some p:=by
 cases h1<;>cases h2<;>first|exact h|(cases k<;>simp[Zl,mz,qq4,qq5]at h)
theorem qaR:∀ {ks:List XF} {az bs cs ds:List D},RepL ρ az cs->RepL ρ bs ds->∀{p:Bool},Zi ks az bs=some p->Zi ks cs ds=some p
 | [],az,bs,cs,ds,h1,h2,p,h=>by
   have e1:=h1.1;have e2:=h2.1;cases az<;>cases cs<;>simp at e1<;>cases bs<;>cases ds<;>simp at e2<;>first|exact h|(simp[Zi]at h)
 | k::ks,az,bs,cs,ds,h1,h2,p,h=>by
   have e1:=h1.1;have e2:=h2.1;cases az with
   |nil=>simp[Zi]at h
   | cons a az=>
     cases bs with
     |nil=>simp[Zi]at h
     | cons b bs=>
       cases cs with
       |nil=>simp at e1
       | cons c cs=>
         cases ds with
         |nil=>simp at e2
         | cons d ds=>
           simp only[Zi,List.head?_cons,qAb,List.tail_cons,qzO]at h ⊢;obtain⟨q,hq,r,hr,h⟩:=h;have t1:RepL ρ az cs:=⟨by simpa using e1,λk x y a b=>h1.2 (k+1) x y (by simpa using a) (by simpa using b)⟩
           have t2:RepL ρ bs ds:=⟨by simpa using e2,λk x y a b=>h2.2 (k+1) x y (by simpa using a) (by simpa using b)⟩
           exact⟨q,qaS (h1.2 0 a c rfl rfl) (h2.2 0 b d rfl rfl) hq,r,qaR t1 t2 hr,h⟩
def qjX{agg:Bool}{ks:List XF}{a b c d:D}(h1:Rep ρ a c)(h2:Rep ρ b d){p:Bool}(h:qgx agg ks a b=some p):qgx agg ks c d=some p:=by
 unfold qgx at h ⊢;split at h
 ·rename_i e;rw[if_pos e];cases h1<;>try (simp[rU]at h;done)
  rename_i az cs l1 g1;cases h2<;>try (simp[rU]at h;done)
  rename_i bs ds l2 g2;exact qaR ⟨l1,g1⟩ ⟨l2,g2⟩ h
 ·rename_i e;rw[if_neg e];split at h
  ·exact qaS h1 h2 h
  ·cases h
theorem IK(hσ:SRep ρ σe σ)(hH:HRep ρ he H){c:COp}{d:D}(h:cW c σe he=some d){K:D->Prop}(hK:∀d',Rep ρ d d'->K d'):aj c σ H K:=by
 cases c<;>try (cases h;done)
 case mv x=>cases h;exact hK _ (bh hσ x)
 case pick c x y=>
  simp only[cW,jT,tA,KX,jU,tq,tB,tw,tz,tn,tr,jV,fa,KP,KW,tu,KV,KS,tv,tt,KR,KT,KQ,JM,KU]at h;simp only[aj];have hc:=bh hσ c;generalize ev σe c=a at h hc;generalize ev σ c=b at hc;cases hc<;>try (cases h;done)
  rename_i v;cases v<;>try (cases h;done)
  rename_i t;cases t
  ·cases h;exact⟨λe=>(by cases e),λ_=>hK _ (bh hσ y)⟩
  ·cases h;exact⟨λ_=>hK _ (bh hσ x),λe=>(by cases e)⟩
 case box el im x=>
  cases im
  ·cases h
  ·simp only[cW,jT,tA,KX,jU,tq,tB,tw,tz,tn,tr,jV,fa,KP,KW,tu,KV,KS,tv,tt,KR,KT,KQ,JM,KU]at h;split at h
   ·rename_i hk;cases h;have hx:=bh hσ x;exact⟨hx.kn hk,hK _ (.cptr _ _ _ (hx.cells hk).1 (hx.cells hk).2)⟩
   ·cases h
 case build z ps=>
  simp only[cW,qz0]at h;obtain⟨cs,h,rfl⟩:=h;exact Qy hσ ps _ _ cs (Mj z) h λds hd=>hK _ (.agg _ _ hd.1 hd.2)
 case bslice el n ps=>
  simp only[cW,jT,tA,KX,jU,tq,tB,tw,tz,tn,tr,jV,fa,KP,KW,tu,KV,KS,tv,tt,KR,KT,KQ,JM,KU]at h;split at h
  ·rename_i hp;cases h;have hr:=zK hσ ps;exact⟨CA hr hp,hK _ (.list _ _ _ hr.1 hr.2)⟩
  ·cases h
 case load agg sz x=>
  simp only[cW,jT,tA,KX,jU,tq,tB,tw,tz,tn,tr,jV,fa,KP,KW,tu,KV,KS,tv,tt,KR,KT,KQ,JM,KU]at h;simp only[aj];have hx:=bh hσ x;generalize ev σe x=a at h hx;generalize ev σ x=b at hx;cases hx<;>try (cases h;done)
  ·rename_i cs ds off hl hc;dsimp only at h ⊢;split at h
   ·rename_i hb;cases h;exact⟨by rw[<-hl];exact hb,hK _ (RS ⟨hl,hc⟩ _ _ _)⟩
   ·cases h
  ·rename_i id n off x b hn;dsimp only at h ⊢;split at h
   ·rename_i b' cs hg;split at h
    ·rename_i hb;simp only[qzT,decide_eq_true_eq]at hb;obtain⟨r',h1,h2⟩:=hH _ _ hg;cases h;rw[h1];cases h2 with
     | box n' cs ds x' b2 hn' hc=>
       have e:=Nat.eq_of_beq_eq_true hb.1;subst e;rw[hn]at hn';cases hn';exact⟨rfl,by rw[<-hc.1];exact hb.2,hK _ (RS hc _ _ _)⟩
    ·cases h
   ·cases h
  ·rename_i id n w i off x b hn;dsimp only at h ⊢;split at h
   ·rename_i x' el n' es hg;split at h
    ·rename_i hb;simp only[qzT,decide_eq_true_eq]at hb;obtain⟨r',h1,h2⟩:=hH _ _ hg;rw[h1];cases h2 with
     | row m el w' cs ds y b2 hm hc=>
       have e:=Nat.eq_of_beq_eq_true hb.1.2;subst e;have ex:=Fp hb.1.1 hm hn;subst ex;split at h
       ·rename_i d0 hd0;split at h
        ·rename_i hk;cases h;obtain⟨d1,hd1,hr⟩:=hc.get hd0;refine⟨rfl,rfl,hb.2,(qzP.1 hd1).1,λd hd=>?_⟩;rw[hd1]at hd;cases hd;exact hK _ (RS (hr.cells hk) _ _ _)
        ·cases h
       ·cases h
    ·cases h
   ·cases h
 case nilck x=>
  simp only[cW,jT,tA,KX,jU,tq,tB,tw,tz,tn,tr,jV,fa,KP,KW,tu,KV,KS,tv,tt,KR,KT,KQ,JM,KU]at h;simp only[aj];have hx:=bh hσ x;generalize ev σe x=a at h hx;generalize ev σ x=b at hx;cases hx<;>try (cases h;done)
  ·rename_i cs ds off hl hc;cases h;exact hK _ (.cptr _ _ _ hl hc)
  ·rename_i hn;cases h;exact hK _ (.bptr _ _ _ _ _ hn)
  ·rename_i hn;cases h;exact hK _ (.eptr _ _ _ _ _ _ _ hn)
 case arith op x y=>
  simp only[cW,jT,tA,KX,jU,tq,tB,tw,tz,tn,tr,jV,fa,KP,KW,tu,KV,KS,tv,tt,KR,KT,KQ,JM,KU]at h;simp only[aj];have hx:=bh hσ x;have hy:=bh hσ y;generalize ev σe x=a at h hx;generalize ev σ x=b at hx;generalize ev σe y=a' at h hy;generalize ev σ y=b' at hy;cases hx<;>try (cases h;done)
  rename_i v;cases v<;>try (cases h;done)
  cases hy<;>try (cases h;done)
  rename_i v;cases v<;>try (cases h;done)
  dsimp only at h ⊢;split at h
  ·rename_i hk;simp only[qz0]at h;obtain⟨n,h,rfl⟩:=h;exact⟨qjw hk,qnz h (hK _ (.v _))⟩
  ·cases h
 case cmp op x y=>
  simp only[cW,jT,tA,KX,jU,tq,tB,tw,tz,tn,tr,jV,fa,KP,KW,tu,KV,KS,tv,tt,KR,KT,KQ,JM,KU]at h;simp only[aj];have hx:=bh hσ x;have hy:=bh hσ y;generalize ev σe x=a at h hx;generalize ev σ x=b at hx;generalize ev σe y=a' at h hy;generalize ev σ y=b' at hy;cases hx<;>try (cases h;done)
  rename_i v;cases v<;>try (cases h;done)
  all_goals
   cases hy<;>try (cases h;done)
   rename_i v;cases v<;>try (cases h;done)
   dsimp only at h ⊢
  ·split at h
   ·rename_i hk;simp only[qz0]at h;obtain⟨t,h,rfl⟩:=h;rw[h];exact⟨hk,hK _ (.v _)⟩
   ·cases h
  ·simp only[qz0]at h;obtain⟨t,h,rfl⟩:=h;rw[h];exact hK _ (.v _)
 case eql neg agg ks x y=>
  simp only[cW,qz0]at h;obtain⟨p,h,rfl⟩:=h;simp only[aj];rw[qjX (bh hσ x) (bh hσ y) h];exact hK _ (.v _)
 case scat x y=>
  simp only[cW,jT,tA,KX,jU,tq,tB,tw,tz,tn,tr,jV,fa,KP,KW,tu,KV,KS,tv,tt,KR,KT,KQ,JM,KU]at h;simp only[aj];have hx:=bh hσ x;have hy:=bh hσ y;generalize ev σe x=a at h hx;generalize ev σ x=b at hx;generalize ev σe y=a' at h hy;generalize ev σ y=b' at hy;cases hx<;>try (cases h;done)
  rename_i v;cases v<;>try (cases h;done)
  cases hy<;>try (cases h;done)
  rename_i v;cases v<;>try (cases h;done)
  dsimp only at h ⊢;split at h
  ·rename_i hk;cases h;exact⟨hk,hK _ (.v _)⟩
  ·cases h
 case not x=>
  simp only[cW,jT,tA,KX,jU,tq,tB,tw,tz,tn,tr,jV,fa,KP,KW,tu,KV,KS,tv,tt,KR,KT,KQ,JM,KU]at h;simp only[aj];have hx:=bh hσ x;generalize ev σe x=a at h hx;generalize ev σ x=b at hx;cases hx<;>try (cases h;done)
  rename_i v;cases v<;>try (cases h;done)
  cases h;exact hK _ (.v _)
 case neg x=>
  simp only[cW,jT,tA,KX,jU,tq,tB,tw,tz,tn,tr,jV,fa,KP,KW,tu,KV,KS,tv,tt,KR,KT,KQ,JM,KU]at h;simp only[aj];have hx:=bh hσ x;generalize ev σe x=a at h hx;generalize ev σ x=b at hx;cases hx<;>try (cases h;done)
  rename_i v;cases v<;>try (cases h;done)
  dsimp only at h ⊢;split at h
  ·rename_i hk;cases h;exact⟨Sx hk,hK _ (.v _)⟩
  ·cases h
 case conv k x=>
  simp only[cW,jT,tA,KX,jU,tq,tB,tw,tz,tn,tr,jV,fa,KP,KW,tu,KV,KS,tv,tt,KR,KT,KQ,JM,KU]at h;simp only[aj];have hx:=bh hσ x;generalize ev σe x=a at h hx;generalize ev σ x=b at hx;cases hx<;>try (cases h;done)
  rename_i v;cases v<;>try (cases h;done)
  cases h;exact hK _ (.v _)
 case clo f caps=>
  cases h;have hr:=zK hσ caps;exact hK _ (.clo _ _ _ hr.1 hr.2)
 case slice n x lo hi=>
  simp only[cW,jT,tA,KX,jU,tq,tB,tw,tz,tn,tr,jV,fa,KP,KW,tu,KV,KS,tv,tt,KR,KT,KQ,JM,KU]at h;simp only[aj];have hx:=bh hσ x;generalize ev σe x=a at h hx;generalize ev σ x=b at hx;cases hx<;>try (cases h;done)
  ·rename_i n' cs ds hl hc;dsimp only at h ⊢;split at h
   ·rename_i hn;simp only[qz0]at h;obtain⟨p,h,rfl⟩:=h;refine⟨Nat.eq_of_beq_eq_true hn,?_⟩;have hrl:RepL ρ cs ds:=⟨hl,hc⟩
    have hKp:K (.list n ((ds.take p.2).drop p.1)):=hK _ (.list _ _ _ ((hrl.take p.2).drop p.1).1 ((hrl.take p.2).drop p.1).2);rw[hl]at h;have hv:=SX hσ h (K:=λl h=>l=p.1/\h=p.2) ⟨rfl,rfl⟩;generalize (lo.map λo=>mz (ev σ o))=a at hv ⊢;generalize (hi.map λo=>mz (ev σ o))=b at hv ⊢;rcases a with _|_|⟨k1,l1⟩ <;>rcases b with _|_|⟨k2,l2⟩ <;>simp only[pW]at hv ⊢ <;>try (exact hv.elim)
    ·rw[<-hv.1,<-hv.2,qz8,List.drop_zero]at hKp;exact hKp
    ·rw[<-hv.2.2.1,<-hv.2.2.2,List.drop_zero]at hKp;exact⟨hv.1,hv.2.1,hKp⟩
    ·rw[<-hv.2.2.1,<-hv.2.2.2,qz8]at hKp;exact⟨hv.1,hv.2.1,hKp⟩
    ·rw[<-hv.2.2.2.1,<-hv.2.2.2.2]at hKp;exact⟨hv.1,hv.2.1,hv.2.2.1,hKp⟩
   ·cases h
  ·rename_i id m x b hn;dsimp only at h ⊢;split at h
   ·rename_i x' el n' es hg;split at h
    ·rename_i hb;simp only[qzT]at hb;simp only[qz0]at h;obtain⟨p,h,rfl⟩:=h;obtain⟨r',h1,h2⟩:=hH _ _ hg;rw[h1];cases h2 with
     | row m' el w' cs ds y b2 hm hc=>
       have e:=Nat.eq_of_beq_eq_true hb.2;subst e;have ex:=Fp hb.1 hm hn;subst ex;rw[hc.1]at h;exact⟨rfl,rfl,SX hσ h (hK _ (.sub _ _ _ _ _ _ _ hn))⟩
    ·cases h
   ·cases h
 case sslice x lo hi=>
  simp only[cW,jT,tA,KX,jU,tq,tB,tw,tz,tn,tr,jV,fa,KP,KW,tu,KV,KS,tv,tt,KR,KT,KQ,JM,KU]at h;simp only[aj];have hx:=bh hσ x;generalize ev σe x=a at h hx;generalize ev σ x=b at hx;cases hx<;>try (cases h;done)
  rename_i v;cases v<;>try (cases h;done)
  rename_i s;simp only[qz0]at h;obtain⟨p,h,rfl⟩:=h;have hKp:K (.v (.string (s.extract p.1 p.2))):=hK _ (.v _);have hv:=SX hσ h (K:=λl h=>l=p.1/\h=p.2) ⟨rfl,rfl⟩;dsimp only;generalize (lo.map λo=>mz (ev σ o))=a at hv ⊢;generalize (hi.map λo=>mz (ev σ o))=b at hv ⊢;rcases a with _|_|⟨k1,l1⟩ <;>rcases b with _|_|⟨k2,l2⟩ <;>simp only[pW]at hv ⊢ <;>try (exact hv.elim)
  ·rw[<-hv.1,<-hv.2]at hKp;exact hKp
  ·rw[<-hv.2.2.1,<-hv.2.2.2]at hKp;exact⟨hv.1,hv.2.1,hKp⟩
  ·rw[<-hv.2.2.1,<-hv.2.2.2]at hKp;exact⟨hv.1,hv.2.1,hKp⟩
  ·rw[<-hv.2.2.2.1,<-hv.2.2.2.2]at hKp;exact⟨hv.1,hv.2.1,hv.2.2.1,hKp⟩
 case faddr off x=>
  simp only[cW,jT,tA,KX,jU,tq,tB,tw,tz,tn,tr,jV,fa,KP,KW,tu,KV,KS,tv,tt,KR,KT,KQ,JM,KU]at h;simp only[aj];have hx:=bh hσ x;generalize ev σe x=a at h hx;generalize ev σ x=b at hx;cases hx<;>try (cases h;done)
  ·rename_i cs ds off hl hc;cases h;exact hK _ (.cptr _ _ _ hl hc)
  ·rename_i hn;cases h;exact hK _ (.bptr _ _ _ _ _ hn)
  ·rename_i hn;cases h;exact hK _ (.eptr _ _ _ _ _ _ _ hn)
 case fld agg sz off x=>
  simp only[cW,jT,tA,KX,jU,tq,tB,tw,tz,tn,tr,jV,fa,KP,KW,tu,KV,KS,tv,tt,KR,KT,KQ,JM,KU]at h;simp only[aj];have hx:=bh hσ x;generalize ev σe x=a at h hx;generalize ev σ x=b at hx;cases hx<;>try (cases h;done)
  rename_i cs ds hl hc;dsimp only at h ⊢;split at h
  ·rename_i hb;cases h;exact⟨by rw[<-hl];exact hb,hK _ (RS ⟨hl,hc⟩ _ _ _)⟩
  ·cases h
 case iaddr n x i=>
  simp only[cW,jT,tA,KX,jU,tq,tB,tw,tz,tn,tr,jV,fa,KP,KW,tu,KV,KS,tv,tt,KR,KT,KQ,JM,KU]at h;simp only[aj];have hi:=bh hσ i;generalize ev σe i=a at h hi;generalize ev σ i=b at hi;cases hi<;>try (cases h;done)
  rename_i v;cases v<;>try (cases h;done)
  rename_i k;dsimp only at h ⊢;have hx:=bh hσ x;generalize ev σe x=a at h hx;generalize ev σ x=b at hx;cases hx<;>try (cases h;done)
  ·rename_i n' cs ds hl hc;dsimp only at h ⊢;split at h
   ·rename_i hb;simp only[qzT,decide_eq_true_eq]at hb;split at h
    ·rename_i d0 hd0;split at h
     ·rename_i hk;cases h;obtain⟨d1,hd1,hr⟩:=RepL.get ⟨hl,hc⟩ hd0;have hlt:=(qzP.1 hd1).1;refine⟨Nat.eq_of_beq_eq_true hb.1,hb.2,by omega,λd hd=>?_⟩;rw[hd1]at hd;cases hd;exact hK _ (.cptr _ _ _ (hr.cells hk).1 (hr.cells hk).2)
     ·cases h
    ·cases h
   ·cases h
  ·rename_i id m x b hn;dsimp only at h ⊢;split at h
   ·rename_i x' el n' es hg;split at h
    ·rename_i hb;simp only[qzT,decide_eq_true_eq]at hb;cases h;obtain⟨r',h1,h2⟩:=hH _ _ hg;rw[h1];cases h2 with
     | row m' el w' cs ds y b2 hm hc=>
       have e:=Nat.eq_of_beq_eq_true hb.1.1.2;subst e;have ex:=Fp hb.1.1.1 hm hn;subst ex;exact⟨rfl,rfl,hb.1.2,by rw[<-hc.1];exact hb.2,hK _ (.eptr _ _ _ _ _ _ _ hn)⟩
    ·cases h
   ·cases h
  ·rename_i id m w lo hi x b hn;dsimp only at h ⊢;split at h
   ·rename_i hb;simp only[qzT,decide_eq_true_eq]at hb;cases h;exact⟨Nat.eq_of_beq_eq_true hb.1.1,hb.1.2,hb.2,hK _ (.eptr _ _ _ _ _ _ _ hn)⟩
   ·cases h
 case sidx x i=>
  simp only[cW,jT,tA,KX,jU,tq,tB,tw,tz,tn,tr,jV,fa,KP,KW,tu,KV,KS,tv,tt,KR,KT,KQ,JM,KU]at h;simp only[aj];have hi:=bh hσ i;generalize ev σe i=a at h hi;generalize ev σ i=b at hi;cases hi<;>try (cases h;done)
  rename_i v;cases v<;>try (cases h;done)
  rename_i k;dsimp only at h ⊢;have hx:=bh hσ x;generalize ev σe x=a at h hx;generalize ev σ x=b at hx;cases hx<;>try (cases h;done)
  rename_i v;cases v<;>try (cases h;done)
  rename_i s;dsimp only at h ⊢;split at h
  ·rename_i h0;simp only[decide_eq_true_eq]at h0;simp only[qz0]at h;obtain⟨c,hc,rfl⟩:=h;have hlt:k.toNat<s.size:=(qzW.1 hc).1;refine⟨h0,by omega,λc' hc'=>?_⟩;rw[hc]at hc';cases hc';exact hK _ (.v _)
  ·cases h
 case ext x i=>
  simp only[cW,jT,tA,KX,jU,tq,tB,tw,tz,tn,tr,jV,fa,KP,KW,tu,KV,KS,tv,tt,KR,KT,KQ,JM,KU]at h;simp only[aj];have hx:=bh hσ x;generalize ev σe x=a at h hx;generalize ev σ x=b at hx;cases hx<;>try (cases h;done)
  rename_i cs ds hl hc;dsimp only at h ⊢;obtain⟨d1,hd1,hr⟩:=RepL.get ⟨hl,hc⟩ h;rw[hd1];exact hK _ hr
 case len x=>
  simp only[cW,jT,tA,KX,jU,tq,tB,tw,tz,tn,tr,jV,fa,KP,KW,tu,KV,KS,tv,tt,KR,KT,KQ,JM,KU]at h;simp only[aj];have hx:=bh hσ x;generalize ev σe x=a at h hx;generalize ev σ x=b at hx;cases hx<;>try (cases h;done)
  ·rename_i v;cases v<;>try (cases h;done)
   cases h;exact hK _ (.v _)
  ·rename_i n' cs ds hl hc;cases h;dsimp only;rw[hl]at hK;exactλ_=>hK _ (.v _)
  ·rename_i id m x b hn;dsimp only at h ⊢;split at h
   ·rename_i x' el n' es hg;split at h
    ·rename_i hb;cases h;obtain⟨r',h1,h2⟩:=hH _ _ hg;rw[h1];cases h2 with
     | row m' el w' cs ds y b2 hm hc=>
       have ex:=Fp hb hm hn;subst ex;rw[hc.1]at hK;exact⟨rfl,λ_=>hK _ (.v _)⟩
    ·cases h
   ·cases h
  ·cases h;exactλ_=>hK _ (.v _)
 case slen x=>
  simp only[cW,jT,tA,KX,jU,tq,tB,tw,tz,tn,tr,jV,fa,KP,KW,tu,KV,KS,tv,tt,KR,KT,KQ,JM,KU]at h;simp only[aj];have hx:=bh hσ x;generalize ev σe x=a at h hx;generalize ev σ x=b at hx;cases hx<;>try (cases h;done)
  rename_i v;cases v<;>try (cases h;done)
  cases h;exactλ_=>hK _ (.v _)
 case rstr x=>
  simp only[cW,jT,tA,KX,jU,tq,tB,tw,tz,tn,tr,jV,fa,KP,KW,tu,KV,KS,tv,tt,KR,KT,KQ,JM,KU]at h;simp only[aj];have hx:=bh hσ x;generalize ev σe x=a at h hx;generalize ev σ x=b at hx;cases hx<;>try (cases h;done)
  rename_i v;cases v<;>try (cases h;done)
  cases h;exact hK _ (.v _)
 case srunes x=>
  simp only[cW,jT,tA,KX,jU,tq,tB,tw,tz,tn,tr,jV,fa,KP,KW,tu,KV,KS,tv,tt,KR,KT,KQ,JM,KU]at h;simp only[aj];have hx:=bh hσ x;generalize ev σe x=a at h hx;generalize ev σ x=b at hx;cases hx<;>try (cases h;done)
  rename_i v;cases v<;>try (cases h;done)
  dsimp only at h ⊢;split at h
  ·rename_i hs;cases h;refine⟨hs,hK _ (.list _ _ _ rfl (RepL.same λd hd=>?_).2)⟩;obtain⟨y,_,rfl⟩:=qzV.1 hd;exact .v _
  ·cases h
 case sbytes x=>
  simp only[cW,JM]at h;simp only[aj];have hx:=bh hσ x;generalize ev σe x=a at h hx;generalize ev σ x=b at hx;cases hx<;>try (cases h;done)
  rename_i v;cases v<;>try (cases h;done)
  cases h;refine hK _ (.list _ _ _ rfl (RepL.same λd hd=>?_).2);obtain⟨y,_,rfl⟩:=qzV.1 hd;exact .v _
 case mm mx xs=>
  match xs,h with
  | [x,y],h=>
    simp only[cW,jT,tA,KX,jU,tq,tB,tw,tz,tn,tr,jV,fa,KP,KW,tu,KV,KS,tv,tt,KR,KT,KQ,JM,KU]at h;simp only[aj];have hx:=bh hσ x;have hy:=bh hσ y;generalize ev σe x=a at h hx;generalize ev σ x=b at hx;generalize ev σe y=a' at h hy;generalize ev σ y=b' at hy;cases hx<;>try (cases h;done)
    rename_i v;cases v<;>try (cases h;done)
    cases hy<;>try (cases h;done)
    rename_i v;cases v<;>try (cases h;done)
    dsimp only at h ⊢;split at h
    ·rename_i hk;cases h;exact⟨hk,hK _ (.v _)⟩
    ·cases h
end
end X
end Go.Gv
