/- T52 -/
import Derived.Test.YtfpmgnnippjblaaGreatDoorGb13
set_option linter.all false
set_option maxRecDepth 100000
set_option maxHeartbeats 0
namespace Go.Gv
section
variable {dq:Prop}
namespace X
noncomputable def lm(f:D->D)(l:List D):List D:=List.rec (motive:=λ_=>List D) [] (λd _ a=>f d::a) l
theorem xJ(f:D->D):∀l,lm f l=l.map f
 | []=>rfl
 | d::l=>by
   show f d::lm f l=_;rw[xJ f l];rfl
noncomputable def la(p:D->Bool)(l:List D):Bool:=List.rec (motive:=λ_=>Bool) false (λd _ a=>Bool.rec a true (p d)) l
def qhh(f:Nat->Nat):D->D
 | .own i x=> .own (f i) x
 | .bptr i b o=> .bptr (f i) b o
 |d=>d
noncomputable def qiY(f:Nat->Nat):D->D
 | .agg cs=> .agg (lm (qhh f) cs)
 |d=>qhh f d
noncomputable def rn(f:Nat->Nat):D->D
 | .tup ds=> .tup (lm (qiY f) ds)
 | .clo g cs=> .clo g (lm (qhh f) cs)
 |d=>qiY f d
section
variable {Hf:ab}{f:Nat->Nat}{ρ:VL}
theorem qaf{g:D->D}(h:∀d,FrzTo Hf d (g d))(l:List D)(k:Nat)(c c':D)(h1:l[k]? =some c)(h2:(lm g l)[k]? =some c'):FrzTo Hf c c':=by
 grind [xJ]
theorem Wf(d:D):FrzTo Hf d (qhh f d):=by
 cases d<;>first|exact .own _ _ _|exact .bptr _ _ _ _|exact .same _
def qcV(d:D):FrzTo Hf d (qiY f d):=by
 cases d
 case agg cs=>exact .agg (by grind [xJ]) (qaf Wf cs)
 all_goals exact Wf (f:=f) _
def qvl(d:D):FrzTo Hf d (rn f d):=by
 cases d
 case tup cs=>exact .tup (by grind [xJ]) (qaf qcV cs)
 case clo g cs=>exact .clo (by grind [xJ]) (qaf Wf cs)
 all_goals exact qcV (f:=f) _
def ON{g:D->D}(h:∀c d,Rep ρ c d->Rep ρ (g c) (g d)){cs ds:List D}(hl:RepL ρ cs ds):RepL ρ (lm g cs) (lm g ds):=by
 grind [X.RepL,xJ]
def qee(c d:D)(h:Rep ρ c d):Rep ρ (qhh f c) (qhh f d):=by
 cases h with
 |any d=>exact .any _
 |undef=>exact .undef
 |v x=>exact .v x
 |agg cs ds hl h=>exact .agg cs ds hl h
 |tup cs ds hl h=>exact .tup cs ds hl h
 |clo g cs ds hl h=>exact .clo g cs ds hl h
 |list n cs ds hl h=>exact .list n cs ds hl h
 |cptr cs ds off hl h=>exact .cptr cs ds off hl h
 |own id n x b h=>exact .own _ n x b h
 |bptr id n off x b h=>exact .bptr _ n off x b h
 |eptr id n w i off x b h=>exact .eptr id n w i off x b h
 |sub id n w lo hi x b h=>exact .sub id n w lo hi x b h
def Nq(c d:D)(h:Rep ρ c d):Rep ρ (qiY f c) (qiY f d):=by
 cases h with
 |any d=>exact .any _
 |agg cs ds hl h=>have q:=ON (qee (f:=f)) (⟨hl,h⟩:RepL ρ cs ds);exact .agg _ _ q.1 q.2
 |clo g cs ds hl h=>exact .clo g cs ds hl h
 |undef=>exact .undef
 |v x=>exact .v x
 |tup cs ds hl h=>exact .tup cs ds hl h
 |list n cs ds hl h=>exact .list n cs ds hl h
 |cptr cs ds off hl h=>exact .cptr cs ds off hl h
 |own id n x b h=>exact .own _ n x b h
 |bptr id n off x b h=>exact .bptr _ n off x b h
 |eptr id n w i off x b h=>exact .eptr id n w i off x b h
 |sub id n w lo hi x b h=>exact .sub id n w lo hi x b h
theorem qqA(c d:D)(h:Rep ρ c d):Rep ρ (rn f c) (rn f d):=by
 cases h with
 |any d=>exact .any _
 |tup cs ds hl h=>have q:=ON (Nq (f:=f)) (⟨hl,h⟩:RepL ρ cs ds);exact .tup _ _ q.1 q.2
 |agg cs ds hl h=>exact Nq _ _ (.agg cs ds hl h)
 |clo g cs ds hl h=>have q:=ON (qee (f:=f)) (⟨hl,h⟩:RepL ρ cs ds);exact .clo g _ _ q.1 q.2
 |undef=>exact .undef
 |v x=>exact .v x
 |list n cs ds hl h=>exact .list n cs ds hl h
 |cptr cs ds off hl h=>exact .cptr cs ds off hl h
 |own id n x b h=>exact .own _ n x b h
 |bptr id n off x b h=>exact .bptr _ n off x b h
 |eptr id n w i off x b h=>exact .eptr id n w i off x b h
 |sub id n w lo hi x b h=>exact .sub id n w lo hi x b h
noncomputable def qxv(f:Nat->Nat):Res->Res
 | .box b cs=> .box b (lm (qiY f) cs)
 | .row x el n es=> .row x el n (lm (qiY f) es)
 |r=>r
def qyx(i:Nat):D->Bool
 | .own j _=>Nat.beq j i
 | .bptr j _ _=>Nat.beq j i
 | _=>false
noncomputable def qve(i:Nat):D->Bool
 | .agg cs=>la (qyx i) cs
 |d=>qyx i d
noncomputable def qvd(i:Nat):Res->Bool
 | .box _ cs=>la (qve i) cs
 | .row _ _ _ es=>la (qve i) es
 | _=>false
def qpm:Res->Bool
 | .row _ _ n es=>FM n es
 | _=>true
noncomputable def gR(i:Nat)(f:Nat->Nat)(r:Res):Option Res:=Bool.rec (some r) (Bool.rec none (some (qxv f r)) (qpm r)) (qvd i r)
def qm9{r s:Res}(h:RepR ρ r s):RepR ρ (qxv f r) (qxv f s):=by
 cases h with
 |box n cs ds x b h hc=>exact .box _ _ _ _ _ h (ON Nq hc)
 |row n el w cs ds x b h hc=>exact .row _ _ _ _ _ _ _ h (ON Nq hc)
 |iter n s p x b h=>exact .iter _ _ _ _ _ h
theorem SB{c:D}(hk:c.kn=true):(qiY f c).kn=true/\(qiY f c).cells=lm (qhh f) c.cells:=by
 cases c<;>first
  |(simp[D.kn]at hk;done)
  |exact⟨rfl,rfl⟩
  |(refine⟨rfl,?_⟩;simp[qiY,qhh,D.cells,lm])
def qna{x:Value}{el n:Nat}{cs ds:List D}(h:RepL ρ cs ds)(hp:FM n cs=true):RFz Hf (.row x el n ds) (.row x el n (lm (qiY f) ds)):=by
 have a:=DR h hp;have key:∀l:List D,kj n l->∀d∈l,d.kn=true/\d.cells.length=n:=by
  intro l
  induction l<;>simp_all
 refine⟨rfl,rfl,rfl,by grind [xJ],λd b=>?_,λm c c' h1 h2 j e k h3 h4=>?_⟩;grind [xJ,SB]
 ·rw[xJ,qF6,h1]at h2;cases h2;rw[(SB (key ds a c (qFP h1)).1).2]at h4;grind [qaf,Wf]
end
noncomputable def Tr.mapO{α:Type}(f:α->Option α)(t:Tr α):Tr α:=Tr.rec (motive:=λ_=>Tr α) .e (λv _ _ l r=> .n (Option.rec none f v) l r) t
def Tr.get_mapO{α:Type}(f:α->Option α):∀(t:Tr α) (k:Nat),Tr.get (Tr.mapO f t) k=(Tr.get t k).bind f
 | .e,k=>rfl
 | .n v l r,k=>by
   show Tr.get (.n (Option.rec none f v) (Tr.mapO f l) (Tr.mapO f r)) k=_;rw[Tr.get_n,Tr.get_n];split
   ·cases v<;>rfl
   ·split
    ·exact Tr.get_mapO f l _
    ·exact Tr.get_mapO f r _
def qE8:Res->Option Nat
 | .box n _=>some n
 | .iter n _ _=>some n
 | .row (.int _ n) _ _ _=>some n.toNat
 | _=>none
def f1(i j x:Nat):Nat:=match Nat.beq x i with
 |true=>j
 |false=>x
noncomputable def Zl(i j:Nat)(sm nw:List Nat)(s:XS):Option XS:=match s.h.he.get i with
 |none=>none
 | some r=>match s.h.he.get j,gR i (f1 i j) r with
   |none,some r'=>if Nat.beq i j then some s else some ⟨s.l.map (rn (f1 i j)),⟨((Tr.mapO (gR i (f1 i j)) s.h.he).del i).set j r',sm,nw,s.h.n⟩⟩
   | _,_=>none
noncomputable def qne(i:Nat)(s:XS):Option XS:=match s.h.he.get i with
 |none=>some s
 | some r=>match qE8 r with
   |none=>none
   |some m=>if Nat.ble 1000 i then some s else Zl i (1000+m) s.h.sm ((1000+m)::s.h.nw) s
def qBe:CI->List Nat
 | .op _ _ (.store (some r) _ _ _)=>[r]
 | .op _ _ (.append (some r) _ _ _ _ _)=>[r]
 | _=>[]
def qt3(l:List CI):List Nat:=l.flatMap qBe
def qAD:CC->List Nat
 | .regd p _=>qt3 p
 | .seq (.regd p _) _=>qt3 p
 | _=>[]
noncomputable def Zk(l:List Nat):XS->Option XS:=List.rec (motive:=λ_=>XS->Option XS) (λs=>some s) (λr _ a s=>match sg s.l r with
 | .bptr i _ _=>match Nat.beq i r with
   |true=>a s
   | false=>match Zl i r (r::s.h.sm) s.h.nw s with
     |some b=>a b
     |none=>none
 | .own i _=>match Nat.beq i r with
   |true=>a s
   | false=>match Zl i r (r::s.h.sm) s.h.nw s with
     |some b=>a b
     |none=>none
 | _=>none) l
noncomputable def qqC(l:List Nat):XS->Option XS:=List.rec (motive:=λ_=>XS->Option XS) (λs=>some ⟨s.l,⟨s.h.he, [],s.h.nw,s.h.n⟩⟩) (λi _ a s=>match qne i s with
 |some b=>a b
 |none=>none) l
noncomputable def qnc(s:XS):Option XS:=match s.h.sm with
 | []=>some s
 |i::l=>qqC (i::l) s
def XRep(ρ:VL)(s:XS)(a:Sg)(H:ab):Prop:=ρ.length=s.h.n/\SRep ρ (sg s.l) a/\HRep ρ s.h.he H
def qro{ρ:VL}{i j:Nat}{r r' s:Res}(a:gR i (f1 i j) r=some r')(h:RepR ρ r s):∃c,RepR ρ r' c/\RFe (λ_=>none) s c:=by
 unfold gR at a;cases hh:qvd i r with
 |false=>rw[hh]at a;cases a;exact⟨s,h, .inl rfl⟩
 | true=>
   rw[hh]at a;cases ho:qpm r with
   |false=>simp_all
   | true=>
     rw[ho]at a;cases a;refine⟨qxv (f1 i j) s,qm9 h, .inr ?_⟩;cases h with
     |box n cs ds x b hn hc=>exact⟨rfl,by grind [xJ],qaf qcV _⟩
     |row n el w cs ds x b hn hc=>exact qna hc ho
     |iter n s p x b hn=>rfl
theorem qei{ρ:VL}{i j:Nat}{sm nw:List Nat}{s K:XS}(h:Zl i j sm nw s=some K){u:Sg}{H:ab}(L:XRep ρ s u H):∃b H',Wk u H b H'/\XRep ρ K b H':=by
 have same:∃b H',Wk u H b H'/\XRep ρ s b H':=⟨u,H,λE a w h=>h,L⟩
 unfold Zl at h;split at h;grind
 ·rename_i r hi;split at h
  ·rename_i r' Y Z;split at h;grind
   ·rename_i hs;cases h;have M:i≠j:=λe=>hs (by grind)
    obtain⟨hn,C,N⟩:=L;have hex:∀x,∃o:Option Res,(∀p A,s.h.he.get x=some p->gR i (f1 i j) p=some A->∃k,o=some k/\RepR ρ A k)/\(∀k,o=some k->∃F,H x=some F/\RFe (λ_=>none) F k):=λx=>by
     cases c:s.h.he.get x with
     |none=>exact⟨none,λp A h=>(by cases h),λk h=>(by cases h)⟩
     | some p=>
       cases I:gR i (f1 i j) p with
       |none=>exact⟨none,λJ A h h2=>(by grind),λk h=>(by cases h)⟩
       | some A=>
         obtain⟨F,k1,O⟩:=N x p c;obtain⟨k,k3,k4⟩:=qro I O;refine⟨some k,λJ Q h h2=>?_,λS h=>?_⟩;grind;grind
    obtain⟨G,hG⟩:=qHy hex;refine⟨λt=>rn (f1 i j) (u t),λx=>if x=j then G i else if x=i then none else G x,?_,hn,λt=>?_,λx r c=>?_⟩
    ·refine qbs (Hf:=λ_=>none) (λx=>if x=j then i else x) (λt=>qvl _) (λx r c=>?_) (λx y r q c hy e=>?_) (λi r h=>by cases h);grind;grind
    ·show Rep ρ (sg (s.l.map (rn (f1 i j))) t) _;have U:=C t;unfold sg at U ⊢;rw[Tr.get_map];cases c:s.l.get t with
     |none=>exact .any _
     |some d=>grind [qqA]
    ·rcases Tr.get_set c with⟨rfl,rfl⟩|⟨e,c⟩
     grind
     ·obtain⟨e2,c⟩:=Tr.get_del c;rw[Tr.get_mapO]at c;cases W:s.h.he.get x<;>grind
  grind
def qnd{ρ:VL}{i:Nat}{s b:XS}(h:qne i s=some b){c:Sg}{H:ab}(d:XRep ρ s c H):∃a H',Wk c H a H'/\XRep ρ b a H':=by
 grind [Wk,XRep,qne,qei]
theorem U6{ρ:VL} :∀(l:List Nat) {s b:XS},Zk l s=some b->∀{d:Sg} {H:ab},XRep ρ s d H->∃c H',Wk d H c H'/\XRep ρ b c H'
 | [],s,b,h,d,H,j=>by
   cases h;exact⟨d,H,λE a w h=>h,j⟩
 | r::l,s,b,h,d,H,j=>by
   have go:∀i,(match Nat.beq i r with
    |true=>Zk l s
    | false=>match Zl i r (r::s.h.sm) s.h.nw s with
      |some b=>Zk l b
      |none=>none)=some b->∃c H',Wk d H c H'/\XRep ρ b c H':=λi h=>by
    split at h
    ·exact U6 l h j
    ·split at h
     ·rename_i A h1;obtain⟨p,C,q,t⟩:=qei h1 j;obtain⟨k,u,x,y⟩:=U6 l h t;exact⟨k,u,λE a w h=>x E a w (q E a w h),y⟩
     grind
   have h:(match sg s.l r with
    | .bptr i _ _=>match Nat.beq i r with
      |true=>Zk l s
      | false=>match Zl i r (r::s.h.sm) s.h.nw s with
        |some b=>Zk l b
        |none=>none
    | .own i _=>match Nat.beq i r with
      |true=>Zk l s
      | false=>match Zl i r (r::s.h.sm) s.h.nw s with
        |some b=>Zk l b
        |none=>none
    | _=>none)=some b:=h
   split at h
   ·exact go _ h
   ·exact go _ h
   grind
theorem qeh{ρ:VL} :∀(l:List Nat) {s b:XS},qqC l s=some b->∀{c:Sg} {H:ab},XRep ρ s c H->∃d H',Wk c H d H'/\XRep ρ b d H'
 | [],s,b,h,c,H,j=>by
   cases h;exact⟨c,H,λE a w h=>h,j⟩
 | i::l,s,b,h,c,H,j=>by
   have h:(match qne i s with
    |some b=>qqC l b
    |none=>none)=some b:=h
   split at h
   ·rename_i y h1;obtain⟨p,A,q,r⟩:=qnd h1 j;obtain⟨k,t,u,x⟩:=qeh l h r;exact⟨k,t,λE a w h=>u E a w (q E a w h),x⟩
   grind
def qeg{ρ:VL}{s d:XS}(h:qnc s=some d){c:Sg}{H:ab}(j:XRep ρ s c H):∃b H',Wk c H b H'/\XRep ρ d b H':=by
 unfold qnc at h;split at h
 ·cases h;exact⟨c,H,λE a w h=>h,j⟩
 grind [qeh]
end X
namespace X
def qlZ(S:Nat->Spc)(cf:CF):Prop:=∀f args h r b,cf f args h=some (r,b)->∀(ρ:VL) (ds:List D) (H:ab) (K:D->ab->Prop) (d:Nat),ρ.length=h.n->RepL ρ args ds->HRep ρ h.he H->
 (∀(a:VL) (r':D) (H':ab),ρ <+:a->a.length=b.n->Rep a r r'->HRep a b.he H'->K r' H')->(S f).pt d ds H K
def qoT(S:Nat->Spc)(pf:PF):Prop:=∀f args r,pf f args=some r->∀(ρ:VL) (ds:List D),RepL ρ args ds->∃a,S f= .pure a/\a.pre ds/\∀r',a.post ds r'->Rep ρ r r'
section
variable {ρ:VL}{l:SL}{σ:Sg}{H:ab}{S:Nat->Spc}{cf:CF}{pf:PF}
theorem SRep.up{a:VL}(hp:ρ <+:a)(h:SRep ρ (sg l) σ){dst:Option Nat}{d j:D}(k:Rep a d j):SRep a (sg (uO l dst d)) (fK σ dst j):=λt=>by
 cases dst with
 |none=>exact(h t).mono hp
 | some s=>
   have b:=h t;simp[upd];unfold sg at b ⊢;split
   ·rename_i p c;rcases Tr.get_set c with⟨rfl,rfl⟩|⟨e,c⟩
    grind
    ·rw[if_neg e];rw[c]at b;exact b.mono hp
   ·exact .any _
theorem qeJ{g:Option (Nat×Bool)}{b:Bool}(h:qyC g l=some b)(c:SRep ρ (sg l) σ){d no:Sg->Prop}(j:b=true->∀a,SRep ρ (sg l) a->d a)(hn:b=false->∀a,SRep ρ (sg l) a->no a):nk g σ d no:=by
 cases g with
 |none=>cases h;exact j rfl σ c
 | some p=>
   let ⟨s,b0⟩:=p
   simp[qyC]at h;have hs:=c s;unfold nk;dsimp only;have same:∀t:Bool,sg l s= .v (.bool t)->SRep ρ (sg l) (upd σ s (.v (.bool t))):=λt e r=>by
    unfold upd;split
    ·rename_i er;subst er;rw[e];exact .v _
    ·exact c r
   generalize k:sg l s=q at h hs;generalize σ s=u at hs;cases hs<;>try (cases h)
   grind
   ·rename_i v;cases v<;>try (cases h;done)
    simp[qF0]at h;refine⟨λe=>j (by grind) _ (same b0 (by grind)),λe=>hn (by grind) _ (same (!b0) (by grind))⟩
theorem qhn(k:SRep ρ (sg l) σ){h b:XH}(p:HRep ρ h.he H)(hn:ρ.length=h.n){c:COp}{dst:Option Nat}{d:D}(q:xW c dst (sg l) h=some (d,b)){K:D->ab->Prop}
 (r:∀(a:VL) (j:D) (H':ab),ρ <+:a->a.length=b.n->Rep a d j->HRep a b.he H'->K j H'):bj c dst σ H K:=by
 grind [xW,qrt]
def NC(b:qlZ S cf){h c:XH}(p:HRep ρ h.he H)(hn:ρ.length=h.n){f:Nat}{args ds:List D}{d:D}(j:Xp h (cf f args ⟨h.he, [], [],h.n⟩)=some (d,c))(q:RepL ρ args ds){K:D->ab->Prop}{t:Nat}
 (r:∀(a:VL) (k:D) (H':ab),ρ <+:a->a.length=c.n->Rep a d k->HRep a c.he H'->K k H'):(S f).pt t ds H K:=by
 unfold Xp at j;split at j
 ·rename_i s h1 hc;cases j;exact b f args _ _ h1 hc ρ ds H K t hn q p r
 grind
theorem qog(q:qlZ S cf)(j:SRep ρ (sg l) σ){h u:XH}(s:HRep ρ h.he H)(hn:ρ.length=h.n){c:COp}{dst:Option Nat}{d:D}(p:qoh cf c dst (sg l) h=some (d,u)){K:D->ab->Prop}
 (t:∀(k:VL) (x:D) (H':ab),ρ <+:k->k.length=u.n->Rep k d x->HRep k u.he H'->K x H'):aI S c dst σ H K:=by
 cases c
 case call f args=>exact NC q s hn p (AQ j args) t
 case callb r f args=>exact NC q s hn p (AQ j args) t
 case callv f args=>
  simp[qoh]at p;simp[aI];have w:=bc j f;generalize ev (sg l) f=a at p w;generalize ev σ f=b at w;cases w<;>try (cases p)
  rename_i g cs ds hl hc;exact NC q s hn p ((AQ j args).append ⟨hl,hc⟩) t
 all_goals (simp[qoh]at p;exact qhn j s hn p t)
theorem Wr(k:qlZ S cf):∀(ls:List CI) (ρ:VL) (s p:XS) (σ:Sg) (H:ab),qyR cf ls s=some p->XRep ρ s σ H->∀K:Sg->ab->Prop,(∀(c:VL) (b:Sg) (H':ab),ρ <+:c->XRep c p b H'->K b H')->Fs S ls σ H K
 | [],ρ,s,p,σ,H,h,j,K,q=>by cases h;exact q ρ σ H (List.prefix_refl ρ) j
 | ci::r,ρ,s,p,σ,H,h,j,K,q=>by
   have h:qo8 cf ci s (qyR cf r)=some p:=h;unfold qo8 at h;split at h;grind
   ·simp[Fs];split at h
    ·rename_i t;split at h
     ·rename_i d h1 ho;refine qeJ t j.2.1 (λ_ b a=>?_) (λe=>by cases e);refine qog k a j.2.2 j.1 ho λu E A hp w C x=>?_
      exact Wr k r u _ p _ A h ⟨w,SRep.up hp a C,x⟩ K λc b H' y=>q c b H' (hp.trans y)
     grind
    ·rename_i t;refine qeJ t j.2.1 (λe=>by cases e) (λ_ b a=>?_);exact Wr k r ρ _ p _ H h ⟨j.1,SRep.up (List.prefix_refl ρ) a .undef,j.2.2⟩ K q
    grind
theorem qse{c:COp}(h:quF c=true){dst:Option Nat}{σ:Sg}{Hr H:ab}{K:D->ab->Prop}(a:bj c dst σ H K):aw S c dst σ Hr H K:=by
 cases c<;>try (cases h)
 all_goals first
  |exact a
  |(rename_i im x;cases im<;>first|exact a|(done))
theorem qqg(d:SRep ρ (sg l) σ){r sz:Nat}{x y:Operand}(h:qxs (some r) (ev (sg l) x)=true){dst:Option Nat}{Hr H:ab}{K:D->ab->Prop}(c:bj (.store (some r) sz x y) dst σ H K):aw S (.store (some r) sz x y) dst σ Hr H K:=by
 have j:=bc d x;refine⟨c.1,c.2.1,?_⟩;have c:=c.2.2;generalize ev (sg l) x=a at h j;generalize ev σ x=b at j c;cases j<;>try (cases h)
 all_goals first|exact c.elim|skip
 all_goals
  have e:=Nat.eq_of_beq_eq_true (show Nat.beq _ r=true from h);grind
theorem qsd(t:SRep ρ (sg l) σ){he J u:HE}{H Hr:ab}(C:HRep ρ he H)(E:HRep ρ J Hr){n L:Nat}(hn:ρ.length=n){rt:Option Nat}{el w bytes:Nat}{x y:Operand}{dst:Option Nat}{d:D}(hb:qxs rt (ev (sg l) x)=true)
 (h:qhd el w bytes (ev (sg l) x) (YK w (ev (sg l) y) J) dst he n=some (d,u,L)) {K:D->ab->Prop}
 (M:∀(j:VL) (N:D) (H':ab),ρ <+:j->j.length=L->Rep j d N->HRep j u H'->K N H'):aw S (.append rt el w bytes x y) dst σ Hr H K:=by
 have one:∀y:Value×Nat,ρ <+:ρ++ [y]/\(ρ++ [y]).length=n+1/\(ρ++ [y])[n]? =some y:=λy=>⟨Zr ρ y,by grind,by grind⟩
 simp only[qhd]at h;simp[aw];split at h
 ·rename_i es2 F;refine qdI E (bc t y) F λO p=>?_
  have rx:=bc t x;generalize ev (sg l) x=a at h hb rx;generalize ev σ x=b at rx;cases rx<;>try (cases h)
  ·split at h<;>rename_i e<;>try (cases e;done)
   ·cases e;cases rt with
    |some r=>cases hb
    | none=>
      split at h
      ·split at h
       ·rename_i hb;cases h;have hb:=Qk hb;rw[p.1]at hb;refine⟨hb.1,hb.2,λv=>?_⟩
        let ⟨q,I,A⟩:=one (v,0)
        exact M _ _ _ q I (.own _ _ _ _ A) ((C.mono q).set (.row _ _ _ _ _ _ _ A (p.mono q)))
       grind
      grind
   grind
  ·rename_i id m x b hm;dsimp only at h ⊢;cases rt with
   |none=>cases hb
   | some r=>
     have e:=Nat.eq_of_beq_eq_true (show Nat.beq id r=true from hb);subst e;split at h
     ·rename_i W U w' es Q;split at h
      ·rename_i hb;simp only[qFS]at hb;cases h;obtain⟨k,rfl⟩:=FI C Q
       let ⟨ds,h1,h2⟩:=Al (c:=0) (y:= .bool true) C Q hb.1.1.1 hm
       have s:=Qk hb.2;rw[p.1,h2.1]at s;dsimp only;rw[h1];refine⟨rfl,rfl,Nat.eq_of_beq_eq_true hb.1.1.2,Nat.eq_of_beq_eq_true hb.1.2,s.1,s.2,λv=>?_⟩
       let ⟨q,I,A⟩:=one (v,0)
       exact M _ _ _ q I (.own _ _ _ _ A) ((C.mono q).set (.row _ _ _ _ _ _ _ A ((h2.append p).mono q)))
      ·cases h
     ·cases h
  ·cases hb
 grind
theorem qjC:∀(ls:List CI) {b:HE} {Hr:ab},HRep ρ b Hr->HRep ρ (mk ls b) (bN ls Hr)
 | [],b,Hr,h=>h
 | .frz _ _::_,b,Hr,h=>h
 | .op d g c::l,b,Hr,h=>λi r hi=>by
   have p:=qjC l h;have hi:(qBf (c.wid d) (mk l b)).get i=some r:=hi;unfold qBf at hi;simp only[bN];split at hi
   ·rename_i t e;split at hi
    ·cases hi
    ·rename_i q
     let ⟨s,hi⟩:=Tr.get_del hi
     have a:¬Ge (CI.op d g c).wid i:=by
      show ¬Ge (c.wid d) i;rw[e];intro j;have j:VZ i=VZ t:=j;have k:VZ t≠0:=λu=>q (by simp_all)
      unfold VZ at j k;grind
     rw[if_neg a];exact p i r hi
   ·have a:¬Ge (CI.op d g c).wid i:=by
     show ¬Ge (c.wid d) i;simp_all
    rw[if_neg a];exact p i r hi
theorem Wq(u:qoT S pf):∀(ls:List CI) (ρ:VL) (y:HE) (Hr:ab) (s w:XS) (σ:Sg) (H:ab),qyQ pf ls y s=some w->HRep ρ y Hr->XRep ρ s σ H->∀K:Sg->ab->Prop,(∀(x:VL) (p:Sg) (H':ab),ρ <+:x->XRep x w p H'->K p H')->kF S ls σ Hr H K
 | [],ρ,y,Hr,s,w,σ,H,h,q,t,K,J=>by cases h;exact J ρ σ H (List.prefix_refl ρ) t
 | ci::r,ρ,y,Hr,s,w,σ,H,h,q,t,K,J=>by
   have h:qAm pf ci r y s (qyQ pf r)=some w:=h;cases ci with
   |frz a b=>exact Wq u r ρ _ _ s w σ H h (qjC r q) t K J
   | op dst g c=>
     simp[qAm]at h;simp[kF];split at h
     ·rename_i L;refine qeJ L t.2.1 (λ_ p j=>?_) (λe=>by cases e);have go:∀(k:VL) (d A:D) (h1:XH) (I:ab),qyQ pf r y ⟨uO s.l dst d,h1⟩=some w->ρ <+:k->k.length=h1.n->Rep k d A->HRep k h1.he I->kF S r (fK p dst A) Hr I K:=λk d A h1 I h hp C E F=>
       Wq u r k y Hr _ w _ I h (q.mono hp) ⟨C,SRep.up hp j E,F⟩ K λx p H' M=>J x p H' (hp.trans M)
      split at h
      ·rename_i f args _h;split at h
       ·rename_i d E
        let ⟨pc,h1,h2,h3⟩:=u _ _ _ E ρ _ (AQ j args)
        simp[h1];exact⟨h2,λr' N=>go ρ d r' s.h H h (List.prefix_refl ρ) t.1 (h3 r' N) t.2.2⟩
       grind
      grind [X.XRep,qqg,qhn]
      ·split at h
       ·rename_i O;split at h
        ·rename_i d h1 Q;unfold xH at Q;split at Q
         ·rename_i d0 Z n' U;cases Q;exact qsd j t.2.2 q t.1 O U λk A I hp C E F=>go k _ A _ I h hp C E F
         grind
        grind
       grind
      ·split at h
       ·split at h;grind [X.XRep,qse,qhn];grind
       ·split at h
        ·rename_i W;split at h
         ·rename_i d Y;exact(iP W).2 (K5 j q Y λA E=>go ρ d A s.h H h (List.prefix_refl ρ) t.1 E t.2.2)
         grind
        grind
     ·rename_i L;refine qeJ L t.2.1 (λe=>by cases e) (λ_ p j=>?_);exact Wq u r ρ y Hr _ w _ H h q ⟨t.1,SRep.up (List.prefix_refl ρ) j .undef,t.2.2⟩ K J
     grind
end
def Gx:CC->CC
 | .seq a b=> .seq (Gx a) (.cut 0 (Gx b))
 | .ite c a b=> .ite c (Gx a) (Gx b)
 | .block i b=> .block i (Gx b)
 | .loop k b=> .loop k (Gx b)
 |c=>c
noncomputable def OM(cf:CF)(pf:PF)(k:CC->XS->Option (Ex×XS))(c:CC)(s:XS):Option (Ex×XS):=match c with
 | .skip=>some (.norm,s)
 | .reg l=>match qyR cf l s with
   |some q=>some (.norm,q)
   |none=>none
 | .regd p t=>match qyQ pf p (mk p s.h.he) s with
   | some d=>match qyR cf t d with
     |some q=>some (.norm,q)
     |none=>none
   |none=>none
 | .seq a b=>match k a s with
   | some (.norm,d)=>match qnc d with
     | some u=>match Zk (qAD b) u with
       |some w=>k b w
       |none=>none
     |none=>none
   |r=>r
 | .ite c a b=>match ev (sg s.l) c with
   | .v (.bool true)=>k a s
   | .v (.bool false)=>k b s
   | _=>none
 | .block i b=>match k b s with
   | some (.ex j,d)=>match Nat.beq j i with
     |true=>some (.norm,d)
     |false=>some (.ex j,d)
   |r=>r
 | .loop key b=>match k b s with
   | some (.norm,d)=>match qnc d with
     |some u=>k (.loop key b) u
     |none=>none
   |r=>r
 | .exit i=>some (.ex i,s)
 | .ret=>some (.ret,s)
 | _=>none
noncomputable def run(cf:CF)(pf:PF)(k:Nat):CC->XS->Option (Ex×XS):=Nat.rec (motive:=λ_=>CC->XS->Option (Ex×XS)) (λ_ _=>none) (λ_ a c s=>OM cf pf a c s) k
section
variable {S:Nat->Spc}{cf:CF}{pf:PF}
theorem qqx(hcf:qlZ S cf)(hpf:qoT S pf):∀(k:Nat) (c:CC) (s:XS) (e:Ex) (u:XS),run cf pf k c s=some (e,u)->∀(ρ:VL) (σ:Sg) (H:ab),XRep ρ s σ H->∀K:Ex->Sg->ab->Prop,
 (∀(J:VL) (L:Sg) (H':ab),ρ <+:J->XRep J u L H'->K e L H')->vc S (Gx c) K σ H:=by
 intro k
 induction k using Nat.strongRecOn with
 | _ k Z=>
 intro c s e u h ρ σ H C K U;cases k with
 |zero=>cases h
 |succ k=>
 have h:OM cf pf (run cf pf k) c s=some (e,u):=h;cases c with
 |skip=>cases h;exact U ρ σ H (List.prefix_refl ρ) C
 | reg l=>
   simp[OM]at h;split at h
   ·rename_i F hl;cases h;exact Wr hcf l ρ s u σ H hl C _ U
   grind
 | regd p t=>
   simp[OM]at h;split at h
   ·rename_i F I;split at h
    ·refine Wq hpf p ρ _ _ s F σ H I (qjC p C.2.2) C _ λd y H1 hp h1=>?_
     grind [Wr]
    grind
   grind
 | seq a b=>
   simp[OM]at h;simp[Gx,vc];split at h
   ·rename_i F h1;split at h
    ·rename_i s2 h2;split at h
     ·rename_i s3 h3;refine Z k (Nat.lt_succ_self k) a s _ _ h1 ρ σ H C _ λd y H1 hp r=>?_
      let ⟨M,H2,hw,A⟩:=qeg h2 r
      let ⟨N,H3,hw3,W⟩:=U6 _ h3 A
      exact⟨N,H3,λE a w h=>hw3 E a w (hw E a w h),Z k (Nat.lt_succ_self k) b s3 e u h d N H3 W K λJ L H' hp'=>U J L H' (hp.trans hp')⟩
     grind
    grind
   ·cases e<;>grind
 | ite c a b=>
   simp[OM]at h;simp[Gx,vc];have hc:=bc C.2.1 c;generalize ev (sg s.l) c=q at h hc;generalize ev σ c=q' at hc;cases hc<;>try (cases h;done)
   grind
 | block i b=>
   simp[OM]at h;simp[Gx,vc];split at h
   ·rename_i j F h1;refine Z k (Nat.lt_succ_self k) b s _ _ h1 ρ σ H C _ λd y H1 hp r=>?_
    dsimp only;split at h
    ·rename_i e1;cases h;rw[if_pos (Nat.eq_of_beq_eq_true e1)];grind
    ·rename_i e1;cases h;rw[if_neg (Nat.ne_of_beq_eq_false e1)];grind
   ·rename_i Y;refine Z k (Nat.lt_succ_self k) b s e u h ρ σ H C _ λd y H1 hp r=>?_
    cases e<;>grind
 | loop key b=>
   simp[Gx,vc];have en:∀j s,run cf pf j (.loop key b) s=some (e,u)->e≠ .norm:=by
    intro j
    induction j with
    |zero=>intro s h;cases h
    | succ j ih=>
      intro s h;have h:OM cf pf (run cf pf j) (.loop key b) s=some (e,u):=h;simp[OM]at h;split at h
      ·split at h
       ·exact ih _ h
       ·cases h
      ·rename_i Y;intro e1;subst e1;exact Y u h
   refine⟨⟨Nat×Sg×ab,λx=>x.1<=k+1/\∃(F:XS) (d:VL),ρ <+:d/\XRep d F x.2.1 x.2.2/\run cf pf x.1 (.loop key b) F=some (e,u),λx=>x.2.1,λx=>x.2.2,λx=>x.1⟩,⟨(k+1,σ,H),⟨qFU _,s,ρ,List.prefix_refl ρ,C,h⟩,λ_ _ _ h=>h⟩,?_⟩;rintro⟨j,y,H1⟩ ⟨hj,F,d,I,r,h1⟩;dsimp only at hj h1 r ⊢;cases j with
   |zero=>cases h1
   | succ j=>
     have h1:OM cf pf (run cf pf j) (.loop key b) F=some (e,u):=h1;simp[OM]at h1;split at h1
     ·rename_i s2 h2;split at h1
      ·rename_i s3 h3;refine Z j (by lia) b F _ _ h2 d y H1 r _ λO M H2 Q A=>?_
       let ⟨N,H3,hw,W⟩:=qeg h3 A
       exact⟨(j,N,H3),⟨by lia,s3,O,I.trans Q,W,h1⟩,hw,Nat.lt_succ_self j⟩
      ·cases h1
     ·rename_i Y;refine Z j (by lia) b F e u h1 d y H1 r _ λO M H2 Q A=>?_
      have e2:=en (k+1) s h;cases e with
      |norm=>exact absurd rfl e2
      |ex i=>exact U O M H2 (I.trans Q) A
      |ret=>exact U O M H2 (I.trans Q) A
 |exit i=>cases h;exact U ρ σ H (List.prefix_refl ρ) C
 |ret=>cases h;exact U ρ σ H (List.prefix_refl ρ) C
 |cut _ _=>cases h
 |keep _ _ _=>cases h
end
noncomputable def qfS(σ:Sg)(he:HE):List ai->Option (List D)
 | []=>some []
 | .tmp t::r=>(qfS σ he r).map λl=>σ t::l
 | .cell t agg sz::r=>match vF (.load agg sz (.tmp t)) σ he with
   |some d=>(qfS σ he r).map λl=>d::l
   |none=>none
def U1{ρ:VL}{b σ:Sg}{he:HE}{H:ab}(a:SRep ρ b σ)(j:HRep ρ he H):∀(rs:List ai) (ls:List D),qfS b he rs=some ls->∀K:List D->Prop,(∀ds,RepL ρ ls ds->K ds)->yR rs σ H K
 | [],ls,h,K,c=>by cases h;exact c [] .nil
 | .tmp t::r,ls,h,K,c=>by
   simp[qfS]at h;obtain⟨l,h,rfl⟩:=h;exact U1 a j r l h _ λds k=>c _ (.cons (a t) k)
 | .cell t agg sz::r,ls,h,K,c=>by
   simp[qfS]at h;split at h
   ·rename_i d k;simp[qFW]at h;obtain⟨l,h,rfl⟩:=h;exact K5 a j k λs p=>U1 a j r l h _ λds q=>c _ (.cons p q)
   grind
noncomputable def num:Nat->List D->SL->SL
 | _, [],l=>l
 |i,d::r,l=>num (i+1) r (l.set i d)
def qeq{ρ:VL} :∀(cs:List D) (i:Nat) (l:SL) (σ:Sg),SRep ρ (sg l) σ->(∀k c,cs[k]? =some c->Rep ρ c (σ (i+k)))->SRep ρ (sg (num i cs l)) σ
 | [],i,l,σ,h,_=>h
 | c::cs,i,l,σ,h,hc=>by
   refine qeq cs (i+1) _ σ (λt=>?_) (λk c' hk=>by have:=hc (k+1) c' (by grind);grind);have b:=h t;unfold sg at b ⊢;split
   ·rename_i d a;rcases Tr.get_set a with⟨rfl,rfl⟩|⟨e,a⟩
    ·exact hc 0 _ rfl
    grind
   ·exact .any _
noncomputable def qD0:D->Bool
 | .v _=>true
 | .undef=>true
 | _=>false
noncomputable def qAR:D->Bool
 | .agg cs=>la (λd=>!qD0 d) cs==false
 |d=>qD0 d
noncomputable def qAQ:D->Bool
 | .tup cs=>la (λd=>!qAR d) cs==false
 |d=>qAR d
noncomputable def qrM(l:List Nat)(he:HE):HE:=List.rec (motive:=λ_=>HE->HE) (λh=>h) (λi _ a h=>a (h.del i)) l he
def P0:∀(l:List Nat) (he:HE) (i:Nat) (r:Res),(qrM l he).get i=some r->he.get i=some r
 | [],he,i,r,h=>h
 |j::l,he,i,r,h=>(Tr.get_del (P0 l (he.del j) i r h)).2
noncomputable def qvJ(d:D)(h:XH):XH:=Bool.rec h ⟨qrM h.nw (qrM h.sm h.he), [], [],h.n⟩ (qAQ d)
theorem qvI(d:D)(h:XH):(qvJ d h).n=h.n:=by
 unfold qvJ;cases qAQ d<;>rfl
theorem qon{ρ:VL}{d:D}{h:XH}{H:ab}(a:HRep ρ h.he H):HRep ρ (qvJ d h).he H:=λi r hi=>by
 unfold qvJ at hi;cases hp:qAQ d with
 |false=>rw[hp]at hi;exact a i r hi
 |true=>rw[hp]at hi;exact a i r (P0 _ _ _ _ (P0 _ _ _ _ hi))
structure Fn where
 cc:CC
 rs:List ai
 N:Nat
noncomputable def qBn(l:List (Nat×Fn))(k:Nat):Option Fn:=List.rec (motive:=λ_=>Option Fn) none (λp _ a=>Bool.rec a (some p.2) (Nat.beq p.1 k)) l
def qew:∀(l:List (Nat×Fn)) (k:Nat) (fn:Fn),qBn l k=some fn->(k,fn) ∈l
 | [],k,fn,h=>by cases h
 | p::l,k,fn,h=>by
   have h:Bool.rec (motive:=λ_=>Option Fn) (qBn l k) (some p.2) (Nat.beq p.1 k)=some fn:=h;cases e:Nat.beq p.1 k with
   | true=>
     rw[e]at h;grind [Nat.eq_of_beq_eq_true]
   | false=>
     rw[e]at h;exact qHn _ (qew l k fn h)
noncomputable def qAL(he:HE)(args:List D):Bool:=la (λa=>match a with
 | .bptr i _ _=>(match he.get i with
   |some (.box _ cs)=>la (λc=>!qAR c) cs
   | _=>true)
 | .eptr .. =>true
 | _=>false) args==false
noncomputable def qkQ(args:List D)(d:D)(h:XH):XH:=Bool.rec h (qvJ d h) (qAL h.he args)
def qrJ(args:List D)(d:D)(h:XH):(qkQ args d h).n=h.n:=by
 unfold qkQ;cases qAL h.he args
 all_goals grind [qvI]
def qax{ρ:VL}{args:List D}{d:D}{h:XH}{H:ab}(a:HRep ρ h.he H):HRep ρ (qkQ args d h).he H:=by
 unfold qkQ;cases qAL h.he args;lia;grind [qon]
noncomputable def tz(fn:Fn)(args:List D)(s:XS):Option (D×XH):=match qfS (sg s.l) s.h.he fn.rs with
 |some ds=>some (dO ds,qkQ args (dO ds) s.h)
 |none=>none
noncomputable def qtV(Δ:Nat->Option Fn)(pf:PF)(k:Nat)(cf:CF):CF:=λf args h=>match Δ f with
 | some fn=>match Nat.ble args.length fn.N with
   | true=>match run cf pf k fn.cc ⟨num 0 args .e,h⟩with
     |some (.ex _,_)=>none
     |some (_,s)=>tz fn args s
     |none=>none
   |false=>none
 | none=>match pf f args with
   |some d=>some (d,h)
   |none=>none
noncomputable def ME(Δ:Nat->Option Fn)(pf:PF)(k:Nat):CF:=Nat.rec (motive:=λ_=>CF) (λ_ _ _=>none) (λk a=>qtV Δ pf k a) k
def qc4(cf:CF)(f:Nat):PT:=λd ds H K=>∃(args:List D) (h:XH) (r:D) (b:XH) (ρ:VL),cf f args h=some (r,b)/\ρ.length=h.n/\RepL ρ args ds/\HRep ρ h.he H/\
 ((∀(a:VL) (r':D) (H':ab),ρ <+:a->a.length=b.n->Rep a r r'->HRep a b.he H'->K r' H')\/(h.he= .e/\∀(a:VL) (r':D) (H':ab),Rep a r r'->HRep a b.he H'->∃q,FrzTo H' r' q/\K q H))
def qof(cf:CF)(f:Nat):qq (qc4 cf f):=λd ds H K s hk ⟨args,h,r,p,ρ,h1,h2,h3,h4,h5⟩=>⟨args,h,r,p,ρ,h1,h2,h3,h4,h5.imp (λh5 j r' H' a b c d=>hk _ _ (h5 j r' H' a b c d)) λh5=>⟨h5.1,λj r' H' a b=>(h5.2 j r' H' a b).imp λq k=>⟨k.1,hk _ _ k.2⟩⟩⟩
def qEk(cf:CF)(f:Nat):Spc:= .gen _ (qof cf f)
def U3{ρ:VL}{cs ds:List D}(h:RepL ρ cs ds):Rep ρ (dO cs) (dO ds):=by
 match cs,ds,h with
 | [], [],h=>exact .tup _ _ h.1 h.2
 | [c], [d],h=>exact h.2 0 c d rfl rfl
 | _::_::_,_::_::_,h=>exact .tup _ _ h.1 h.2
 | [],_::_,h=>grind [X.RepL]
 | _::_, [],h=>grind [X.RepL]
 | [_],_::_::_,h=>grind [X.RepL]
 | _::_::_, [_],h=>grind [X.RepL]
noncomputable def ql6(Δ:Nat->Option Fn)(pf:PF)(T:Nat->Spc)(k:Nat):Nat->Spc:=λf=>match Δ f with
 |some _=>qEk (ME Δ pf k) f
 |none=>T f
def qru{Δ:Nat->Option Fn}{pf:PF}{T:Nat->Spc}{k:Nat}(b:qoT (ql6 Δ pf T k) pf):qlZ (ql6 Δ pf T k) (ME Δ pf k):=λf args h r c a ρ ds H K d hn p q s=>by
 have t:(∃fn,Δ f=some fn)\/pf f args=some r/\c=h:=by
  cases k with
  |zero=>cases a
  | succ k=>
    have a:qtV Δ pf k (ME Δ pf k) f args h=some (r,c):=a;unfold qtV at a;grind
 rcases t with⟨fn,e⟩|⟨e,rfl⟩
 ·unfold ql6;rw[e];exact⟨args,h,r,c,ρ,a,hn,p,q, .inl s⟩
 ·let ⟨w,u,h1,h2⟩:=b f args r e ρ ds p
  rw[u];exact⟨h1,λr' j=>s ρ r' H (List.prefix_refl ρ) hn (h2 r' j) q⟩
theorem triX_ex{P:Program}{Δ:Nat->Option Fn}{pf:PF}{T:Nat->Spc}(hT:∀f,Tri dq P f (T f).pt)(A:∀k,qoT (ql6 Δ pf T k) pf)(J:∀f fn,Δ f=some fn->∃im,Bk P f im (Gx fn.cc) fn.rs fn.N):∀k f,Tri dq P f (ql6 Δ pf T k f).pt:=by
 intro k
 induction k with
 | zero=>
   intro f;unfold ql6;split
   ·rintro O tp w vs ds H d K - - - - - ⟨args,h,r,L,ρ,p,_⟩;cases p
   grind
 | succ k ih=>
   intro f;unfold ql6;split
   ·rename_i fn e
    let ⟨im,yt,enter,fun_,code,h1,h2,h3,h4,h5⟩:=J f fn e
    refine nU ih yt h1 h2 enter h3 h4 h5 ?_;rintro ds H d K ⟨args,h,r,L,ρ,p,hn,ha,hH,C⟩;have p:qtV Δ pf k (ME Δ pf k) f args h=some (r,L):=p;unfold qtV at p;rw[e]at p;dsimp only at p;split at p
    ·rename_i hN;have hlen:ds.length<=fn.N:=by rw[<-ha.1];exact qFR hN
     refine⟨hlen,ds,λi=>if(h.he.get i).isSome then H i else none,id,⟨rfl,λk d d' h1 h2=>by rw[h1]at h2;cases h2;exact .same _⟩,λi r hi=>?_,λi j r s _ _ h=>h,?_⟩;grind;have M:HRep ρ h.he (λi=>if(h.he.get i).isSome then H i else none):=λi r hi=>by
      let ⟨r',h1,h2⟩:=hH i r hi
      exact⟨r',by dsimp only;rw[hi];simpa using h1,h2⟩
     have U:SRep ρ (sg (num 0 args .e)) (dI ds):=qeq args 0 .e _ (λt=> .any _) λk c hk=>by
      let ⟨d,h1,h2⟩:=ha.get hk
      simp[dI,h1];exact h2
     have main:∀(e:Ex) (s:XS),run (ME Δ pf k) pf k fn.cc ⟨num 0 args .e,h⟩=some (e,s)->(e= .norm\/e= .ret)->tz fn args s=some (r,L)->
      ∃Q:D->ab->Prop,vc (ql6 Δ pf T k) (Gx fn.cc) (wq fn.rs Q) (dI ds) (λi=>if(h.he.get i).isSome then H i else none)/\∀r H',Q r H'->∃(r':D) (Hf F:ab) (I:Nat->Option Nat),FrzTo Hf r r'/\(∀j q,Hf j=some q->H' j=some q/\∀i,I i≠some j)/\K r' F/\
       (∀i s,F i=some s->match I i with|some j=>H' j=some s|none=>H i=some s/\∀k q,(if(h.he.get k).isSome then H k else none)=some q->id k≠i)/\
       (∀i j k s q,F i=some s->F j=some q->I i=some k->I j=some k->i=j):=by
      intro e s u x b;unfold tz at b;split at b
      rotate_left
      ·cases b
      rename_i ls W;cases b;refine⟨λr H'=>∃a,ρ <+:a/\a.length=s.h.n/\Rep a (dO ls) r/\HRep a s.h.he H',qqx (qru (A k)) (A k) k fn.cc _ e s u ρ _ _ ⟨hn,U,M⟩ _ λa σ' H' hp y=>?_,?_⟩
      ·have b:=U1 y.2.1 y.2.2 fn.rs ls W (λds=>∃a,ρ <+:a/\a.length=s.h.n/\Rep a (dO ls) (dO ds)/\HRep a s.h.he H') λds hd=>⟨a,hp,y.1,U3 hd,y.2.2⟩
       rcases x with rfl|rfl
       ·exact b
       ·exact b
      ·rintro r H' ⟨a,hp,Y,y,E⟩;rcases C with C|⟨x,C⟩
       rotate_left
       ·let ⟨q0,Z,hq2⟩:=C a r H' y (qax E)
        exact⟨q0,H',H,λ_=>none,Z,λj q h=>⟨h,λi e=>by cases e⟩,hq2,λi q hi=>⟨hi,λk q h=>(by rw[x]at h;simp[Tr.get_e]at h)⟩,λi j k q q' _ _ h1 h2=>(by cases h1)⟩
       refine⟨r,dj,λi=>if(s.h.he.get i).isSome then H' i else none,λi=>some i, .same _,λj q h=>(by cases h),C a r _ hp (by rw[qrJ];exact Y) y (qax λi q hi=>?_),λi q hi=>?_,λi j k q q' _ _ h1 h2=>by cases h1;cases h2;rfl⟩
       ·let ⟨q',h1,h2⟩:=E i q hi
        exact⟨q',by rw[hi];simpa using h1,h2⟩
       ·dsimp only at hi ⊢;split at hi
        ·exact hi
        ·cases hi
     split at p;grind
     ·rename_i e1 s1 hne u;refine main e1 s1 u ?_ p;cases e1 with
      |norm=>exact .inl rfl
      |ret=>exact .inr rfl
      |ex i=>exact(hne i rfl).elim
     ·cases p
    grind
   grind
mutual
def pl:D->Bool
 | .v _=>true
 | .agg cs=>qjd cs
 | .tup cs=>qjd cs
 | .list _ cs=>qjd cs
 | .cptr cs _=>qjd cs
 | .clo _ cs=>qjd cs
 | .undef=>true
 | _=>false
def qjd:List D->Bool
 | []=>true
 |d::l=>pl d && qjd l
end
mutual
def qno{ρ:VL} :∀d:D,pl d=true->Rep ρ d d
 | .v x,_=> .v x
 | .undef,_=> .undef
 | .agg cs,h=> .agg _ _ rfl (vh cs (by grind [pl])).2
 | .tup cs,h=> .tup _ _ rfl (vh cs (by grind [pl])).2
 | .list n cs,h=> .list _ _ _ rfl (vh cs (by grind [pl])).2
 | .cptr cs o,h=> .cptr _ _ _ rfl (vh cs (by grind [pl])).2
 | .clo f cs,h=> .clo _ _ _ rfl (vh cs (by grind [pl])).2
 | .any,h| .own _ _,h| .bptr _ _ _,h| .eptr _ _ _ _ _,h| .sub _ _ _ _ _,h| .tape _,h| .mp _,h| .mst _ _,h=>by grind [pl]
def vh{ρ:VL} :∀l:List D,qjd l=true->RepL ρ l l
 | [],_=> .nil
 | d::l,h=>by
   rw[qjd,qFS]at h;exact .cons (qno d h.1) (vh l h.2)
end
def qrp{H:ab}{d c:D}(h:FrzTo dj d c):FrzTo H d c:=by
 induction h with
 |same d=>simp
 |any d=>exact .any d
 |nil n=>simp
 |own i j x=>grind [FrzTo]
 |nilown j=>exact .nilown j
 |bptr i j b off=>grind [FrzTo]
 |row h _ _ _ _=>cases h
 |sub h _ _ _ _=>cases h
 |list hl hk _ a=>exact .list hl hk a
 |box h=>cases h
 |agg hl _ a=>grind [FrzTo]
 |tup hl _ a=>grind [FrzTo]
 |clo hl _ a=>grind [FrzTo]
 |nomp=>exact .nomp
 |mrow h _ _ _=>cases h
 |mp hl _ a=>exact .mp hl a
theorem Lz{P:Program}{f:Nat}{cf:CF}(E:Tri dq P f (qc4 cf f)){A:Type}{G:fN A}{pre:A->Prop}{Y:Type}{er:Y->D}{post:A->Y->Prop}
 (F:∀x,pre x->qjd (G.view x)=true/\∃r h y,cf f (G.view x) ⟨.e, [], [],0⟩=some (r,h)/\(∀(a:VL) (r':D) (H':ab),Rep a r r'->HRep a h.he H'->FrzTo H' r' (er y))/\post x y):Tri dq P f (ay G pre er post).pt:=by
 intro O tp w vs ds H d K hO s p hlen j t;rw[me]at t;cases C:G.dec ds with
 |none=>simp_all
 | some x=>
   rw[C]at t
   let ⟨hp,I⟩:=t
   let ⟨h1,r,h,y,h2,h3,h4⟩:=F x hp
   have q:=G.le ds x C;refine E O tp w vs (G.view x) H d K hO s p (by rw[hlen,q.1]) (λk v c h5 h6=>?_) ⟨G.view x,⟨.e, [], [],0⟩,r,h, [],h2,rfl,vh _ h1,λi r h=>(by cases h), .inr ⟨rfl,λa r' H' h5 J=>?_⟩⟩
   ·have u:k<ds.length:=by grind
    have e:=qFQ u;exact(q.2 k _ c e h6).R (H:=dj) (λi r h=>by cases h) (λ_ h=>h) (λi r b h=>by cases h) (j k _ _ h5 e)
   grind
def vq:Value->Value->Bool
 | .int k a, .int c b=>decide (k=c) && decide (a=b)
 | .string a, .string b=>decide (a=b)
 | .bool a, .bool b=>decide (a=b)
 | _,_=>false
theorem qtE{a b:Value}(h:vq a b=true):a=b:=by
 unfold vq at h;grind
def qsf(f:D->D->Bool):List D->List D->Bool
 | [], []=>true
 |c::cs,d::ds=>f c d && qsf f cs ds
 | _,_=>false
def qAV(w:Nat)(d:D):Bool:=d.kn && Nat.beq d.cells.length w
noncomputable def fz:Nat->HE->D->D->Bool
 | 0=>λ_ _ _=>false
 | n+1=>λhe r t=>match t with
   | .any=>true
   | .v x=>(match r with
     | .v y=>vq y x
     | _=>false)
   | .agg a=>(match r with
     | .agg es=>qsf (fz n he) es a
     | _=>false)
   | .tup a=>(match r with
     | .tup es=>qsf (fz n he) es a
     | _=>false)
   | .list w a=>a.all (qAV w) && (match r with
     | .v (.slice none 0 0)=>a.isEmpty
     | .list w' es=>Nat.beq w' w && qsf (fz n he) es a
     | .own id x=>(match he.get id with
       |some (.row b _ w' es)=>qdD b x && Nat.beq w' w && qsf (fz n he) es a
       | _=>false)
     | _=>false)
   | _=>false
def Qs{f:D->D->Bool}{ρ:VL}{H:ab}(p:∀c d c',f c d=true->Rep ρ c c'->FrzTo H c' d):∀(es j es':List D),qsf f es j=true->RepL ρ es es'->es'.length=j.length/\∀(k:Nat) (c c':D),es'[k]? =some c->j[k]? =some c'->FrzTo H c c'
 | [], [],es',_,b=>by
   have h:=b.1;grind
 | c::cs,d::ds,es',h,b=>by
   have hl:=b.1;cases es' with
   |nil=>grind
   | cons a l=>
     simp[qsf]at h;have h0:=b.2 0 c a rfl rfl;have q:=Qs p cs ds l h.2 ⟨by grind,λk x y h1 h2=>b.2 (k+1) x y (by grind) (by grind)⟩;grind
 | [],_::_,_,h,_=>by cases h
 | _::_, [],_,h,_=>by cases h
theorem qpx{ρ:VL}{he:HE}{H:ab}(s:HRep ρ he H):∀(n:Nat) (r t r':D),fz n he r t=true->Rep ρ r r'->FrzTo H r' t
 | 0,r,t,r',h,j=>by cases h
 | n+1,r,t,r',h,j=>by
   have q:∀c d c',fz n he c d=true->Rep ρ c c'->FrzTo H c' d:=λc d c'=>qpx s n c d c'
   have p:∀{w:Nat} {a:List D},a.all (qAV w)=true->∀d∈a,d.kn=true/\d.cells.length=w:=λh d A=>by
    simp_all [qAV]
   cases t with
   |any=>exact .any _
   | v x=>
     grind [FrzTo,X.Rep,fz,qtE]
   | agg a=>
     simp[fz]at h;split at h
     ·rename_i es;cases j with
      | agg _ ds hl hh=>
        have:=Qs q es a ds h ⟨hl,hh⟩;exact .agg this.1 this.2
     grind
   | tup a=>
     simp[fz]at h;split at h
     ·rename_i es;cases j with
      | tup _ ds hl hh=>
        have:=Qs q es a ds h ⟨hl,hh⟩;exact .tup this.1 this.2
     grind
   | list w a=>
     simp only[fz,qFS]at h;obtain⟨h0,h⟩:=h;split at h;grind [FrzTo,X.Rep]
     ·rename_i w' es;simp only[qFS]at h;obtain⟨h1,h⟩:=h;have e:=Nat.eq_of_beq_eq_true h1;subst e;cases j with
      | list _ _ ds hl hh=>
        have:=Qs q es a ds h ⟨hl,hh⟩;exact .list this.1 (p h0) this.2
     ·split at h
      ·rename_i C el w' es u;simp only[qFS]at h;obtain⟨⟨h1,h2⟩,h⟩:=h;have e:=Nat.eq_of_beq_eq_true h2;subst e;cases j with
       | own _ m y b hm=>
         obtain⟨k,rfl⟩:=FI s u
         let ⟨ds,h3,h4⟩:=Al (c:=0) (y:= .bool true) s u h1 hm
         have:=Qs q es a ds h h4;exact .row h3 this.1 (p h0) this.2
      ·cases h
     grind
   | _=>cases h
def qs{P:Program}{f:Nat}{cf:CF}(c:Tri dq P f (qc4 cf f)){A:Type}{G:fN A}{pre:A->Prop}{Y:Type}{er:Y->D}{post:A->Y->Prop}
 (b:∀x,pre x->qjd (G.view x)=true/\∃r h y,cf f (G.view x) ⟨.e, [], [],0⟩=some (r,h)/\(∀(a:VL) (r':D),Rep a r r'->FrzTo dj r' (er y))/\post x y):Tri dq P f (ay G pre er post).pt:=
 Lz c λx d=>(b x d).imp_right λ⟨r,h,y,h1,h2,h3⟩=>⟨r,h,y,h1,λa r' H' b _=>qrp (h2 a r' b),h3⟩
def Ys{P:Program}{f:Nat}{cf:CF}(b:Tri dq P f (qc4 cf f)){A:Type}{G:fN A}{pre:A->Prop}{Y:Type}{er:Y->D}{post:A->Y->Prop}
 (a:∀x,pre x->qjd (G.view x)=true/\∃r h y,cf f (G.view x) ⟨.e, [], [],0⟩=some (r,h)/\fz 60 h.he r (er y)=true/\post x y):Tri dq P f (ay G pre er post).pt:=
 Lz b λx c=>(a x c).imp_right λ⟨r,h,y,h1,h2,h3⟩=>⟨r,h,y,h1,λd r' H' a j=>qpx j 60 _ _ _ h2 a,h3⟩
end X
open Go.Proofs X
def qq3:List Nat:=(List.range 200).map (· +100000)
abbrev gx(f:Func)(x:X.Fn)(_:(⟨G.rw_ Tryz.prog f qq3,(f.results.toList.mapM (fD { Tryz.prog with cutTypes:= #[] })).getD [],f.ntmps⟩:X.Fn)=x:=by conv=>lhs;reduce):X.Fn:=x
def ql8(p:Nat×X.Fn):Prop:=∃im,Bk Tryz.prog p.1 im (Gx p.2.cc) p.2.rs p.2.N
def qz4 {f N : Nat} {cc : CC} {rs : List ai} (h : ((Tryz.prog.funcs[f]?).bind fun g => if g.name == "runtime.NumGoroutine" then none else g.body.bind fun c => (aG Tryz.prog qq3 g.ntmps c).bind fun cc => (g.results.toList.mapM (fD Tryz.prog)).bind fun rs => some (g.ntmps, cc, rs)) = some (N, bI (Gx cc), rs) := by kernel_rfl) : ql8 (f, ⟨cc, rs, N⟩) := ⟨qq3, qpy mixed h⟩
def qpR:∀p∈ ([]:List (Nat×X.Fn)),ql8 p:=λp h=>by cases h
def qhm{p:Nat×X.Fn}{l:List (Nat×X.Fn)}(h:ql8 p)(hl:∀p∈l,ql8 p):∀q∈p::l,ql8 q:=λq hq=>by
 rcases qF5.1 hq with rfl|hq
 ·exact h
 ·exact hl q hq
def qpj:PF:=λ_ _=>none
noncomputable def ΔL(dl:List (Nat×X.Fn))(f:Nat):Option X.Fn:=qBn dl f
def qpS{dl:List (Nat×X.Fn)}(h:∀p∈dl,ql8 p)(k f:Nat):TQ dq f (ql6 (ΔL dl) qpj (J5 []) k f):=
 X.triX_ex (ag ae) (λk f args r h=>by cases h) (λf fn e=>h _ (qew _ _ _ e)) k f
def qhl{dl:List (Nat×X.Fn)}(h:∀p∈dl,ql8 p){f:Nat}{fn:X.Fn}(e:ΔL dl f=some fn)(k:Nat):Tri dq Tryz.prog f (qc4 (ME (ΔL dl) qpj k) f):=by
 have:=qpS (dq:=dq) h k f;unfold ql6 at this;rw[e]at this;exact this
end
section
open Go.Proofs
def Mb:X.Fn:=gx Tryz.f349 _
def G4:X.Fn:=gx Tryz.f204 _
def G3:X.Fn:=gx Tryz.f298 _
def TI:X.Fn:=gx Tryz.f245 _
def JG:X.Fn:=gx Tryz.f244 _
def QI:X.Fn:=gx Tryz.f351 _
def JF:X.Fn:=gx Tryz.f350 _
def G2:X.Fn:=gx Tryz.f146 _
def QH:X.Fn:=gx Tryz.f300 _
def Ma:X.Fn:=gx Tryz.f207 _
def L9:X.Fn:=gx Tryz.f331 _
def Xn:X.Fn:=gx Tryz.f314 _
def Xm:X.Fn:=gx Tryz.f333 _
def qfn:X.Fn:=gx Tryz.f352 _
def TH:X.Fn:=gx Tryz.f293 _
def NB:X.Fn:=gx Tryz.f330 _
def qfm:X.Fn:=gx Tryz.f335 _
def G1:X.Fn:=gx Tryz.f332 _
def G0:X.Fn:=gx Tryz.f315 _
def Fh:X.Fn:=gx Tryz.f336 _
def JE:X.Fn:=gx Tryz.f268 _
def Fg:X.Fn:=gx Tryz.f321 _
def yv:X.Fn:=gx Tryz.f340 _
def Ef:X.Fn:=gx Tryz.f339 _
def B2:X.Fn:=gx Tryz.f263 _
def Ee:X.Fn:=gx Tryz.f341 _
def Ff:X.Fn:=gx Tryz.f265 _
def Fe:X.Fn:=gx Tryz.f264 _
def B1:X.Fn:=gx Tryz.f322 _
def Ed:X.Fn:=gx Tryz.f266 _
def BZ:X.Fn:=gx Tryz.f299 _
def BY:X.Fn:=gx Tryz.f206 _
def Ec:X.Fn:=gx Tryz.f205 _
def Fd:X.Fn:=gx Tryz.f323 _
def TG:X.Fn:=gx Tryz.f267 _
def Xl:X.Fn:=gx Tryz.f334 _
def BW:X.Fn:=gx Tryz.f176 _
open Go.Proofs X
variable {dq:Prop}
def dl:List (Nat×X.Fn):=[(PR,Mb),(sL,G4),(sK,G3),(qao,TI),(M7,JG),(Wn,QI),(M6,JF),(nY,G2),(Wm,QH),(PQ,Ma),(PP,L9),(qc3,Xn),(qc2,Xm),(qky,qfn),(qan,TH),(RN,NB),(qkx,qfm),(K4,G1),(K3,G0),(I4,Fh),(M5,JE),(I3,Fg),(AJ,yv),(Gt,Ef),(Ez,B2),(Gs,Ee),(I2,Ff),(I1,Fe),(Ey,B1),(Gr,Ed),(Ew,BZ),(Ev,BY),(Gq,Ec),(I0,Fd),(qam,TG),(qc1,Xl),(rW,BW)]
def qvK:∀p∈dl,ql8 p:=by
 unfold dl
 repeat' first|exact qpR|refine qhm qz4 ?_
noncomputable def Δ:Nat->Option X.Fn:=ΔL dl
def qtw{f:Nat}{fn:X.Fn}(h:Δ f=some fn)(k:Nat):Tri dq Tryz.prog f (qc4 (ME Δ qpj k) f):=qhl qvK h k
end
section
mutual
def SrcE:Pat->Int->Int->Span->Prop
 | .mk op c l r mn mx ks,d,leaf,s=>if op=1 then s=⟨leaf,d⟩else if op=4 then rJ ks d leaf s else if op=6 then(match ks with|[]=>False|k::_=>∃i:Int,0<=i/\i<mn/\(i=0\/(aS k).1=(aS k).2)/\SrcE k (d+i* (aS k).1) leaf s)else False
def rJ:List Pat->Int->Int->Span->Prop
 | [],_,_,_=>False
 |k::ks,d,leaf,s=>SrcE k d leaf s\/((aS k).1=(aS k).2/\rJ ks (d+ (aS k).1) (leaf+ (am k).length) s)
end
def qh4{p:Pat}(h:p.op=1)(d leaf:Int)(s:Span):SrcE p d leaf s↔s=⟨leaf,d⟩:=by cases p;simp only at h;unfold SrcE;grind
def qh3{p:Pat}(h:p.op=4)(d leaf:Int)(s:Span):SrcE p d leaf s↔rJ p.kids d leaf s:=by cases p;simp only at h;unfold SrcE;grind
def qm0{p k:Pat}(h:p.op=6){ks:List Pat}(hk:p.kids=k::ks)(d leaf:Int)(s:Span):SrcE p d leaf s↔ ∃i:Int,0<=i/\i<p.mn/\(i=0\/(aS k).1=(aS k).2)/\SrcE k (d+i* (aS k).1) leaf s:=by
 cases p;simp only at h hk;subst hk;rw[SrcE.eq_def];grind
theorem qh5{p:Pat}(h:p.op≠1/\p.op≠4/\p.op≠6)(d leaf:Int)(s:Span):¬SrcE p d leaf s:=by
 cases p;simp_all [SrcE.eq_def]
theorem UF{v:B->Bool}(p:Pat):eP v p=true->∀(d leaf:Int) (s:Span),SrcE p d leaf s->leaf<=s.b/\s.b<leaf+ (am p).length/\d<=s.e/\s.e<=d+200000*cX p:=by
 induction p using fJ with|_ p a=>?_
 intro hp d leaf s h;rw[aW];rcases qT (dn hp).1 with⟨ho,_⟩|⟨ho,_⟩|⟨ho,k,ks,hk⟩|⟨ho,k,hk⟩
 ·rw[qh4 ho]at h;grind
 ·exact absurd h (qh5 (by omega) _ _ _)
 ·by_cases h4:p.op=4
  ·rw[qh3 h4]at h;rw[if_neg (by omega),cO];have:∀ks:List Pat,(∀k∈ks,k∈p.kids)->∀d leaf:Int,rJ ks d leaf s->leaf<=s.b/\s.b<leaf+ (ks.flatMap am).length/\d<=s.e/\s.e<=d+200000*bB ks:=by
    intro ks
    induction ks with
    |nil=>intro _ d leaf h;rw[rJ]at h;grind
    | cons k ks c=>
      grind [rJ,bB,List.length_append,ph,eO,aS,zA,cX,cO]
   have:=this p.kids (λk hk=>hk) d leaf h;omega
  grind [absurd,qh5]
 ·rw[qm0 ho hk]at h;obtain⟨i,h0,h1,_,h3⟩:=h;rw[if_neg (by omega),cO,hk,bB,bB];have h4:=a k (by rw[hk];simp) (ph hp (by rw[hk];simp)) _ _ _ h3;have h2:eO (aS k):=zA k (ph hp (by rw[hk];simp));have hn:=(dn hp).2.2;unfold lK at hn;rw[decide_eq_true_eq]at hn;have hn:=hn ho;unfold eO at h2;have h5:0<=i* (aS k).1:=qHl h0 h2.1;have h6:i* (aS k).1<=16*10000:=Int.mul_le_mul (by omega) h2.2.1 h2.1 (by omega);have j:1<=cX k:=by rw[cO];omega
  simp only[qGJ,List.flatMap_nil,qGZ];generalize i* (aS k).1=z at*;omega
def SrcsOf(p:Pat)(r:List Span):Prop:=SS r/\∀s,s∈r↔SrcE p 0 0 s
def SrcsOf.eq{p:Pat}{a b:List Span}(h:SrcsOf p a)(k:SrcsOf p b):a=b:=qcb h.1 k.1 λx=>(h.2 x).trans (k.2 x).symm
def qzK:B:=⟨#[115]⟩
def qoM:B:=⟨#[110,112]⟩
def qzJ:B:=⟨#[116]⟩
def qr9:B:=⟨#[120]⟩
def qti:B:=⟨#[121]⟩
def Types:List B:=[qzK,qoM,qzJ]
def qbf:List (Int×Int):=[(0,1),(0, -1),(1, -1),(2,2),(0,2),(1,3),(0,0)]
def qtr(lb:List B)(p:Pat):Prop:=(p.op=1/\(p.lab=⟨#[]⟩\/p.lab∈lb)/\p.reg=⟨#[]⟩/\p.mn=0/\p.mx=0/\p.kids=[])\/((p.op=2\/p.op=3)/\p.cond=sU/\p.lab=⟨#[]⟩/\p.reg∈Types/\p.mn=0/\p.mx=0/\p.kids=[])
def WP(lb:List B):Nat->Pat->Prop
 | 0,p=>qtr lb p
 | n+1,p=>qtr lb p\/((p.op=4\/p.op=5)/\p.cond=sU/\p.lab=⟨#[]⟩/\p.reg=⟨#[]⟩/\p.mn=0/\p.mx=0/\∃a b,p.kids=[a,b]/\WP lb n a/\WP lb n b)\/
   (p.op=6/\p.cond=sU/\p.lab=⟨#[]⟩/\p.reg=⟨#[]⟩/\(p.mn,p.mx) ∈qbf/\∃a,p.kids=[a]/\WP lb n a)
theorem qz6{lb:List B}{n:Nat}{p:Pat}(h:qtr lb p):WP lb n p:=by
 cases n<;>grind [WP]
def qfj(lb:List B):Prop:=∀l∈lb,l=qr9\/l=qti
def yx{lb:List B}{n:Nat}{p:Pat}(h:WP lb n p):qtr lb p\/ ∃m,n=m+1/\(((p.op=4\/p.op=5)/\p.cond=sU/\p.lab=⟨#[]⟩/\p.reg=⟨#[]⟩/\p.mn=0/\p.mx=0/\∃a b,p.kids=[a,b]/\WP lb m a/\WP lb m b)\/
 (p.op=6/\p.cond=sU/\p.lab=⟨#[]⟩/\p.reg=⟨#[]⟩/\(p.mn,p.mx) ∈qbf/\∃a,p.kids=[a]/\WP lb m a)):=by
 cases n with
 |zero=>exact .inl h
 |succ m=>exact h.elim .inl λh=> .inr ⟨m,rfl,h⟩
def JH{lb:List B}{C:Nat->Pat->Prop}(h:∀n p,WP lb n p->(∀k∈p.kids,∃m,n=m+1/\WP lb m k/\C m k)->C n p):∀n p,WP lb n p->C n p:=by
 intro n
 induction n with
 | zero=>
   intro p hp;refine h 0 p hp λk hk=>?_
   rcases hp with hp|hp;grind;grind
 | succ m a=>
   intro p hp;refine h (m+1) p hp λk hk=>⟨m,rfl,?_⟩
   have:WP lb m k:=by
    rcases hp with(hp|hp)|hp|hp;grind;grind;grind;grind
   grind
theorem qml{v:B->Bool}{lb:List B}(hl:qfj lb)(l:v qzK=true/\v qoM=true/\v qzJ=true/\v qr9=true/\v qti=true):∀n p,WP lb n p->n<=90->eP v p=true:=by
 have key:∀n p,WP lb n p->(n<=90->∀d:Int,d+n<=100->cF p d=true)/\cj pm p=true/\cj (mS v) p=true/\cj lK p=true:=by
  refine JH λn p hp q=>?_
  have c:pm p=true/\mS v p=true/\lK p=true:=by
   rw[qU];unfold rL mS lK;rw[decide_eq_true_eq,decide_eq_true_eq];have r:(p.mn,p.mx) ∈qbf->0<=p.mn/\p.mn<=16/\(p.mx= -1\/p.mn<=p.mx/\p.mx<=16):=by
    intro h;simp[qbf]at h;omega
   have s:p.reg∈Types->v p.reg=true:=by
    grind [qfj,WP,Types]
   rcases yx hp with(⟨h1,h2,h3,h4,h5,h6⟩|⟨h1,h2,h3,h4,h5,h6,j⟩)|⟨m,_,(⟨h1,h2,h3,h4,h5,h6,a,b,j,_⟩|⟨h1,h2,h3,h4,h5,a,j,_⟩)⟩
   ·refine⟨.inl ⟨h1,h3,h4,h5,h6⟩,⟨λh=>by omega,λk=>?_⟩,λh=>by omega⟩;rcases h2 with h2|h2;grind
    ·rcases hl _ h2 with h|h<;>rw[h];grind;grind
   grind;grind;grind
  refine⟨λhn d t=>?_,?_,?_,?_⟩
  ·rw[nW,qFS,decide_eq_true_eq,qFT];grind
  ·rw[cT,qFS,qFT];grind
  ·rw[cT,qFS,qFT];grind
  ·rw[cT,qFS,qFT];grind
 intro n p hp hn;obtain⟨h1,h2,h3,h4⟩:=key n p hp;grind [eP]
theorem qdB{lb:List B} :∀n p,WP lb n p->n<=5->1<=fu p/\fu p<=3^n/\cX p+1<=2^ (n+1):=by
 refine JH λn p hp j hn=>?_
 have hb:(1:Int)<=3^n/\1<=2^n:=⟨Int.pow_pos (by omega),Nat.one_le_two_pow⟩
 rcases yx hp with(⟨h1,h2,h3,h4,h5,h6⟩|⟨h1,h2,h3,h4,h5,h6,d⟩)|⟨m,rfl,(⟨h1,h2,h3,h4,h5,h6,a,b,d,_⟩|⟨h1,h2,h3,h4,h5,a,d,_⟩)⟩
 ·rw[om,Ck,if_pos h6,cO,h6,bB,Nat.pow_succ];omega
 ·rw[om,Ck,if_pos d,cO,d,bB,Nat.pow_succ];omega
 ·obtain⟨c,h,_,a1⟩:=j a (by grind);obtain⟨l,k,_,a2⟩:=j b (by grind);have h:c=m:=by omega
  have k:l=m:=by omega
  subst h;subst k;have a1:=a1 (by omega);have a2:=a2 (by omega);rw[om,Ck,if_neg (by grind),if_neg (by omega),cO,d];grind [ff,bB,Int.pow_succ,Nat.pow_succ]
 ·obtain⟨c,h,_,a1⟩:=j a (by grind);have h:c=m:=by omega
  subst h;have a1:=a1 (by omega);rw[om,Ck,if_neg (by grind),if_pos h1,cO,d];simp only[ff,bB];rw[Int.pow_succ,Nat.pow_succ];rw[Nat.pow_succ]at a1 ⊢;have:(3:Int) ^c<=243:=by
   have:c=0\/c=1\/c=2\/c=3\/c=4:=by omega
   grind
  simp only[qbf,qF5,qHO,qGi,or_false]at h5;grind
def CS:Nat->Cond->Prop
 | 0,c=>c.kids=[]
 |n+1,c=>c.kids.length<=2/\∀k∈c.kids,CS n k
def qdb{n:Nat}{c:Cond}(h:c.kids=[]):CS n c:=by
 cases n
 ·exact h
 ·exact⟨by rw[h];exact qGb _,λk hk=>by rw[h]at hk;simp at hk⟩
def qrW{n m:Nat}{c a:Cond}(hm:n=m+1)(h:c.kids=[a])(b:CS m a):CS n c:=by
 subst hm;refine⟨by rw[h];exact qG8 _,λk hk=>?_⟩;rw[h]at hk;have:k=a:=by simpa using hk
 subst this;exact b
def qrV{n m:Nat}{c a b:Cond}(hm:n=m+1)(h:c.kids=[a,b])(d:CS m a)(hb:CS m b):CS n c:=by
 subst hm;refine⟨by rw[h];exact qFU _,λk hk=>?_⟩;rw[h]at hk;have:k=a\/k=b:=by simpa using hk
 rcases this with rfl|rfl
 ·exact d
 ·exact hb
def qos{n:Nat}{c d:Cond}(h:c.kids=d.kids)(a:CS n d):CS n c:=by
 cases n
 ·exact h.trans a
 ·exact⟨by rw[h];exact a.1,λk hk=>a.2 k (by rw[<-h];exact hk)⟩
def qrX{n:Nat}{c:Cond}(h:CS n c):c.kids.length<=2:=by
 cases n
 ·have:c.kids=[]:=h;rw[this];exact qGb _
 ·exact h.1
def PD:Nat->Pat->Prop
 | 0,p=>(∃m,CS m p.cond)/\p.kids=[]
 |n+1,p=>(∃m,CS m p.cond)/\p.kids.length<=2/\∀k∈p.kids,PD n k
def qjf{n:Nat}{p:Pat}(hc:∃m,CS m p.cond)(h:p.kids=[]):PD n p:=by
 cases n
 ·exact⟨hc,h⟩
 ·exact⟨hc,by rw[h];exact qGb _,λk hk=>by rw[h]at hk;simp at hk⟩
def qqM{n m:Nat}{p a:Pat}(hm:n=m+1)(hc:∃m,CS m p.cond)(h:p.kids=[a])(b:PD m a):PD n p:=by
 subst hm;refine⟨hc,by rw[h];exact qG8 _,λk hk=>?_⟩;rw[h]at hk;have:k=a:=by simpa using hk
 subst this;exact b
def qje{n m:Nat}{p a b:Pat}(hm:n=m+1)(hc:∃m,CS m p.cond)(h:p.kids=[a,b])(c:PD m a)(hb:PD m b):PD n p:=by
 subst hm;refine⟨hc,by rw[h];exact qFU _,λk hk=>?_⟩;rw[h]at hk;have:k=a\/k=b:=by simpa using hk
 rcases this with rfl|rfl
 ·exact c
 ·exact hb
def qe0:∃m,CS m sU:=⟨0,rfl⟩
def qnp{n:Nat}{p:Pat}(h:PD n p):∃m,CS m p.cond:=by cases n<;>exact h.1
def qqN{n:Nat}{p:Pat}(h:PD n p):p.kids.length<=2:=by
 cases n
 ·rw[h.2];exact qGb _
 ·exact h.2.1
def qqO{n:Nat}{p k:Pat}(h:PD n p)(hk:k∈p.kids):∃m,n=m+1/\PD m k:=by
 cases n
 ·rw[h.2]at hk;simp at hk
 ·exact⟨_,rfl,h.2.2 k hk⟩
def qrY{n:Nat}{p k:Cond}(h:CS n p)(hk:k∈p.kids):∃m,n=m+1/\CS m k:=by
 cases n
 ·have h:p.kids=[]:=h;rw[h]at hk;simp at hk
 ·exact⟨_,rfl,h.2 k hk⟩
open Cod (enc dec)
structure Glob where
 op:Int
 a:B
 b:B
 name:B
 arg:B
 val:B
 fold:Bool
 mn:Int
 mx:Int
 args:List B
 kids:List Glob
mutual
def PX:Glob->D
 | .mk a b c d h j k l p q ks=> .agg [enc a,enc b,enc c,enc d,enc h,enc j,enc k,enc l,enc p,enc q, .list 11 (Dk ks)]
def Dk:List Glob->List D
 | []=>[]
 |k::ks=>PX k::Dk ks
end
mutual
def qaI:D->Option Glob
 | .agg [b,c,d,h,j,k,l,p,q,r,a]=>(dec b).bind λs=>(dec c).bind λt=>(dec d).bind λu=>(dec h).bind λw=>(dec j).bind λx=>(dec k).bind λy=>(dec l).bind λA=>(dec p).bind λC=>(dec q).bind λE=>(dec r).bind λF=>(L5 a).bind λks=>some (.mk s t u w x y A C E F ks)
 | _=>none
def L5:D->Option (List Glob)
 | .list n es=>if n=11 then Jc es else none
 | .v (.slice none 0 0)=>some []
 | _=>none
def Jc:List D->Option (List Glob)
 | []=>some []
 |d::ds=>(qaI d).bind λx=>(Jc ds).bind λxs=>some (x::xs)
end
theorem K8:∀l:List Glob,Dk l=l.map PX
 | []=>rfl
 | _::l=>by rw[Dk,K8 l];rfl
theorem qeS:∀c:Glob,(PX c).kn=true
 | .mk .. =>rfl
theorem qav:∀c:Glob,(PX c).cells.length=11
 | .mk .. =>rfl
mutual
def qaH:∀c:Glob,qaI (PX c)=some c
 | .mk a b d j k l p q r s ks=>by
   have h:L5 (.list 11 (Dk ks))=some ks:=by rw[L5,if_pos rfl];exact Ts ks
   simp_all [PX,qaI]
def Ts:∀l:List Glob,Jc (Dk l)=some l
 | []=>by rfl
 |c::l=>by simp only[Dk,Jc,qaH c,Ts l,qGc]
end
mutual
def qeY:∀(d:D) (c:Glob),qaI d=some c->FrzTo dj d (PX c)
 | .agg [l,p,q,r,s,t,u,w,x,y,a],c,h=>by
   simp only[qaI,qFM,qF0]at h;obtain⟨A,h0,C,h1,E,h2,F,h3,I,h4,J,h5,K,h6,L,b,M,j,N,k,ks,hk,rfl⟩:=h;rw[PX];exact LeL.agg (.cons (Cod.le _ _ h0) (.cons (Cod.le _ _ h1) (.cons (Cod.le _ _ h2) (.cons (Cod.le _ _ h3) (.cons (Cod.le _ _ h4) (.cons (Cod.le _ _ h5) (.cons (Cod.le _ _ h6) (.cons (Cod.le _ _ b) (.cons (Cod.le _ _ j) (.cons (Cod.le _ _ k) ((.cons (qkY a ks hk) .nil))))))))))))
def qkY:∀(d:D) (l:List Glob),L5 d=some l->FrzTo dj d (.list 11 (Dk l))
 | .list n es,l,h=>by
   simp only[L5]at h;split at h
   ·rename_i hn;subst hn;have hl:=qaG es l h;refine .list hl.1 (λe he=>?_) hl.2;grind [K8,qeS,qav]
   grind
 | .v (.slice none 0 0),l,h=>by
   simp only[L5,qF0]at h;subst h;exact .nil _
def qaG:∀(es:List D) (l:List Glob),Jc es=some l->LeL es (Dk l)
 | [],l,h=>by
   simp only[Jc,qF0]at h;subst h;exact .nil
 | d::ds,l,h=>by
   simp only[Jc,qFM,qF0]at h;obtain⟨x,h1,xs,h2,rfl⟩:=h;rw[Dk];exact .cons (qeY d x h1) (qaG ds xs h2)
end
instance:Cod Glob where
 wd:=11
 enc:=PX
 dec:=qaI
 kn:=qeS
 wid:=qav
 dec_enc:=qaH
 le:=qeY
def qgR(ks:List Glob):D.list 11 (Dk ks)=enc ks:=by rw[K8];rfl
def P3:∀es:List D,Jc es=es.mapM (dec (X:=Glob))
 | []=>by rfl
 | d::es=>by
   rw[Jc,qGw,P3 es];rfl
def qkZ:∀d:D,L5 d=dec (X:=List Glob) d:=λd=>by
 unfold L5;split
 ·rename_i n es;show _=if n=11 then es.mapM (dec (X:=Glob))else none
  rw[P3]
 ·rfl
 ·rename_i h1 h2;show _=(match d with
   | .list n es=>if n=11 then es.mapM (dec (X:=Glob))else none
   | .v (.slice none 0 0)=>some []
   | _=>none)
  simp
@[simp] theorem qvy(s:Glob):Glob.mk s.op s.a s.b s.name s.arg s.val s.fold s.mn s.mx s.args s.kids=s:=by cases s;rfl
@[simp] theorem qas(s:Glob):enc s= .agg [enc s.op,enc s.a,enc s.b,enc s.name,enc s.arg,enc s.val,enc s.fold,enc s.mn,enc s.mx,enc s.args,enc s.kids]:=by
 rw[<-qgR];cases s;show PX _=_;rw[PX]
@[simp] theorem qw3:Cod.wd Glob=11:=i' rfl
@[simp] theorem qvO(b c d h j k l p q r a:D):dec (X:=Glob) (.agg [b,c,d,h,j,k,l,p,q,r,a])=((dec b).bind λb=>(dec c).bind λc=>(dec d).bind λd=>(dec h).bind λh=>(dec j).bind λj=>(dec k).bind λk=>(dec l).bind λl=>(dec p).bind λp=>(dec q).bind λq=>(dec r).bind λr=>(dec a).bind λa=>some ⟨b,c,d,h,j,k,l,p,q,r,a⟩):=by
 show qaI _=_;simp only[qaI,qkZ]
structure Filt where
 op:Int
 neg:Bool
 reg:B
instance:Cod Filt where
 wd:=3
 enc f:= .agg [enc f.op,enc f.neg,enc f.reg]
 dec| .agg [j,k,l]=>(dec j).bind λa=>(dec k).bind λb=>(dec l).bind λc=>some ⟨a,b,c⟩|_=>none
 kn _:=rfl
 wid _:=rfl
 dec_enc f:=by rfl
 le d x h:=by
  split at h;grind [FrzTo,Option.bind_eq_some_iff,Cod.le];grind
@[simp] theorem qvz(s:Filt):Filt.mk s.op s.neg s.reg=s:=by rfl
@[simp] theorem qvF(s:Filt):enc s= .agg [enc s.op,enc s.neg,enc s.reg]:=i' rfl
@[simp] theorem qw4:Cod.wd Filt=3:=i' rfl
structure Qry where
 pat:Pat
 glob:Glob
 filts:List Filt
 strat:Int
def Lb:Pat->List D| .mk op c l r mn mx ks=>enc op::(GD c++ [enc l,enc r,enc mn,enc mx,enc ks])
theorem qgY:∀p:Pat,D.agg (Lb p)=enc p
 | .mk .. =>(qeO ..).symm
def qde:∀p:Pat,(Lb p).length=13
 | .mk op c l r mn mx ks=>by simp[Lb,Qa]
def P9(g:Glob):List D:=[enc g.op,enc g.a,enc g.b,enc g.name,enc g.arg,enc g.val,enc g.fold,enc g.mn,enc g.mx,enc g.args,enc g.kids]
theorem qgZ(g:Glob):D.agg (P9 g)=enc g:=(qas g).symm
def qlB{l a:List D}(h:FrzTo dj (.agg l) (.agg a)):LeL l a:=by
 cases h with
 |same=>exact⟨rfl,λk x y b c=>by simp_all⟩
 |agg hl h=>exact⟨hl,h⟩
def qkS{l:List D}{p:Pat}(h:dec (D.agg l)=some p):LeL l (Lb p):=qlB (by grind [qgY,Cod.le])
def qgT{l:List D}{p:Glob}(h:dec (D.agg l)=some p):LeL l (P9 p):=qlB (by grind [qgZ,Cod.le])
def qrA(q:Qry):D:= .agg (Lb q.pat++ (P9 q.glob++ [enc q.filts,enc q.strat]))
def qrP:D->Option Qry
 | .agg [h,j,k,l,q,r,t,u,w,x,a,b,c,y,A,C,E,F,I,J,K,L,M,d,f,s]=>(dec (D.agg [h,j,k,l,q,r,t,u,w,x,a,b,c])).bind λp=>(dec (D.agg [y,A,C,E,F,I,J,K,L,M,d])).bind λg=>(dec f).bind λfs=>(dec s).bind λst=>some ⟨p,g,fs,st⟩
 | _=>none
instance:Cod Qry where
 wd:=26
 enc:=qrA
 dec:=qrP
 kn _:=rfl
 wid q:=by simp[qrA,D.cells,qde,P9]
 dec_enc q:=by
  obtain⟨⟨op,⟨o,n,a,v,l,f,b⟩,lb,rg,mn,mx,ks⟩,g,fs,st⟩:=q;simp[GD,qrA,Lb,P9,qrP]
 le d x h:=by
  unfold qrP at h;split at h
  ·simp only[qFM,qF0]at h;obtain⟨p,h0,g,h1,fs,h2,st,h3,rfl⟩:=h;exact LeL.agg ((qkS h0).append ((qgT h1).append (.cons (Cod.le _ _ h2) (.cons (Cod.le _ _ h3) .nil))))
  grind
@[simp] theorem qyW(s:Qry):Qry.mk s.pat s.glob s.filts s.strat=s:=by rfl
@[simp] theorem qy3(s:Qry):enc s= .agg [enc s.pat.op,enc s.pat.cond.op,enc s.pat.cond.name,enc s.pat.cond.arg,enc s.pat.cond.val,enc s.pat.cond.lab,enc s.pat.cond.fold,enc s.pat.cond.kids,enc s.pat.lab,enc s.pat.reg,enc s.pat.mn,enc s.pat.mx,enc s.pat.kids,enc s.glob.op,enc s.glob.a,enc s.glob.b,enc s.glob.name,enc s.glob.arg,enc s.glob.val,enc s.glob.fold,enc s.glob.mn,enc s.glob.mx,enc s.glob.args,enc s.glob.kids,enc s.filts,enc s.strat]:=by
 obtain⟨⟨op,⟨o,n,a,v,l,f,c⟩,lb,rg,mn,mx,ks⟩,g,fs,st⟩:=s;rfl
@[simp] theorem qzb(h j k l q r t u w x a b c y A C E F I J K L M d f s:D):dec (X:=Qry) (.agg [h,j,k,l,q,r,t,u,w,x,a,b,c,y,A,C,E,F,I,J,K,L,M,d,f,s])=((dec (D.agg [h,j,k,l,q,r,t,u,w,x,a,b,c])).bind λp=>(dec (D.agg [y,A,C,E,F,I,J,K,L,M,d])).bind λg=>(dec f).bind λfs=>(dec s).bind λst=>some ⟨p,g,fs,st⟩):=i' rfl
structure qEQ where
 kind:Int
 text:B
 pos:Int
instance:Cod qEQ where
 wd:=3
 enc t:= .agg [.v (.int .u8 t.kind),enc t.text,enc t.pos]
 dec| .agg [.v (.int .u8 k),a,j]=>(dec a).bind λb=>(dec j).bind λc=>some ⟨k,b,c⟩|_=>none
 kn _:=rfl
 wid _:=rfl
 dec_enc f:=by simp only[Cod.dec_enc,qGc]
 le d x h:=by
  split at h
  ·simp only[qFM,qF0]at h;obtain⟨b,h1,c,h2,rfl⟩:=h;exact LeL.agg (.cons (.same _) (.cons (Cod.le _ _ h1) (.cons (Cod.le _ _ h2) .nil)))
  ·cases h
structure Pst where
 l:List qEQ
 pos:Int
 deep:Int
 e:Int
 fail:Int
def Pst.step(s:Pst):Pst:={ s with pos:=s.pos+1 }
def E0:B:=⟨#[]⟩
section
variable (A:Pst->Option (Pst×Pat))
end

end
end Go.Gv
