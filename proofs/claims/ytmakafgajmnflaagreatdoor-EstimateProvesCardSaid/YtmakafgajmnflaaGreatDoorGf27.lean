/- T52 -/
import Derived.Test.YtmakafgajmnflaaGreatDoorGf26
import Derived.Test.YtmakafgajmnflaaGreatDoorGf25
set_option linter.all false
set_option maxRecDepth 100000
set_option maxHeartbeats 0
namespace Go.Gv
section
variable {dq:Prop}
namespace X
noncomputable def lm(f:D->D)(l:List D):List D:=List.rec (motive:=λ_=>List D) [] (λd _ a=>f d::a) l
theorem wR(f:D->D):∀l,lm f l=l.map f
 | []=>rfl
 | d::l=>by
   show f d::lm f l=_;rw[wR f l];rfl
noncomputable def la(p:D->Bool)(l:List D):Bool:=List.rec (motive:=λ_=>Bool) false (λd _ a=>Bool.rec a true (p d)) l
def qd5(f:Nat->Nat):D->D
 | .own i x=> .own (f i) x
 | .bptr i b o=> .bptr (f i) b o
 |d=>d
noncomputable def qfx(f:Nat->Nat):D->D
 | .agg cs=> .agg (lm (qd5 f) cs)
 |d=>qd5 f d
noncomputable def rn(f:Nat->Nat):D->D
 | .tup ds=> .tup (lm (qfx f) ds)
 | .clo g cs=> .clo g (lm (qd5 f) cs)
 |d=>qfx f d
section
variable {Hf:ab}{f:Nat->Nat}{ρ:VL}
theorem WI{g:D->D}(h:∀d,FrzTo Hf d (g d))(l:List D)(k:Nat)(c c':D)(h1:l[k]? =some c)(h2:(lm g l)[k]? =some c'):FrzTo Hf c c':=by
 grind [wR]
theorem SV(d:D):FrzTo Hf d (qd5 f d):=by
 cases d<;>first|exact .own _ _ _|exact .bptr _ _ _ _|exact .same _
def Zo(d:D):FrzTo Hf d (qfx f d):=by
 cases d
 case agg cs=>exact .agg (by grind [wR]) (WI SV cs)
 all_goals exact SV (f:=f) _
def qrT(d:D):FrzTo Hf d (rn f d):=by
 cases d
 case tup cs=>exact .tup (by grind [wR]) (WI Zo cs)
 case clo g cs=>exact .clo (by grind [wR]) (WI SV cs)
 all_goals exact Zo (f:=f) _
def Mt{g:D->D}(h:∀c d,Rep ρ c d->Rep ρ (g c) (g d)){cs ds:List D}(hl:RepL ρ cs ds):RepL ρ (lm g cs) (lm g ds):=by
 grind [X.RepL,wR]
def qaG(c d:D)(h:Rep ρ c d):Rep ρ (qd5 f c) (qd5 f d):=by
 cases h with
 |any d=>exact .any _
 |undef=>exact .undef
 |v x=>exact .v x
 |agg cs ds hl h=>exact .agg cs ds hl h
 |tup cs ds hl h=>exact .tup cs ds hl h
 |clo g cs ds hl h=>exact .clo g cs ds hl h
 |list n cs ds hl h=>exact .list n cs ds hl h
 |cptr cs ds off hl h=>exact .cptr cs ds off hl h
 |own id n x b h=>exact .own _ n x b h
 |bptr id n off x b h=>exact .bptr _ n off x b h
 |eptr id n w i off x b h=>exact .eptr id n w i off x b h
 |sub id n w lo hi x b h=>exact .sub id n w lo hi x b h
def Le(c d:D)(h:Rep ρ c d):Rep ρ (qfx f c) (qfx f d):=by
 cases h with
 |any d=>exact .any _
 |agg cs ds hl h=>have q:=Mt (qaG (f:=f)) (⟨hl,h⟩:RepL ρ cs ds);exact .agg _ _ q.1 q.2
 |clo g cs ds hl h=>exact .clo g cs ds hl h
 |undef=>exact .undef
 |v x=>exact .v x
 |tup cs ds hl h=>exact .tup cs ds hl h
 |list n cs ds hl h=>exact .list n cs ds hl h
 |cptr cs ds off hl h=>exact .cptr cs ds off hl h
 |own id n x b h=>exact .own _ n x b h
 |bptr id n off x b h=>exact .bptr _ n off x b h
 |eptr id n w i off x b h=>exact .eptr id n w i off x b h
 |sub id n w lo hi x b h=>exact .sub id n w lo hi x b h
theorem qnv(c d:D)(h:Rep ρ c d):Rep ρ (rn f c) (rn f d):=by
 cases h with
 |any d=>exact .any _
 |tup cs ds hl h=>have q:=Mt (Le (f:=f)) (⟨hl,h⟩:RepL ρ cs ds);exact .tup _ _ q.1 q.2
 |agg cs ds hl h=>exact Le _ _ (.agg cs ds hl h)
 |clo g cs ds hl h=>have q:=Mt (qaG (f:=f)) (⟨hl,h⟩:RepL ρ cs ds);exact .clo g _ _ q.1 q.2
 |undef=>exact .undef
 |v x=>exact .v x
 |list n cs ds hl h=>exact .list n cs ds hl h
 |cptr cs ds off hl h=>exact .cptr cs ds off hl h
 |own id n x b h=>exact .own _ n x b h
 |bptr id n off x b h=>exact .bptr _ n off x b h
 |eptr id n w i off x b h=>exact .eptr id n w i off x b h
 |sub id n w lo hi x b h=>exact .sub id n w lo hi x b h
noncomputable def qtS(f:Nat->Nat):Res->Res
 | .box b cs=> .box b (lm (qfx f) cs)
 | .row x el n es=> .row x el n (lm (qfx f) es)
 |r=>r
def quU(i:Nat):D->Bool
 | .own j _=>Nat.beq j i
 | .bptr j _ _=>Nat.beq j i
 | _=>false
noncomputable def qrN(i:Nat):D->Bool
 | .agg cs=>la (quU i) cs
 |d=>quU i d
noncomputable def qrM(i:Nat):Res->Bool
 | .box _ cs=>la (qrN i) cs
 | .row _ _ _ es=>la (qrN i) es
 | _=>false
def ql6:Res->Bool
 | .row _ _ n es=>D7 n es
 | _=>true
noncomputable def gR(i:Nat)(f:Nat->Nat)(r:Res):Option Res:=Bool.rec (some r) (Bool.rec none (some (qtS f r)) (ql6 r)) (qrM i r)
def qjR{r s:Res}(h:RepR ρ r s):RepR ρ (qtS f r) (qtS f s):=by
 cases h with
 |box n cs ds x b h hc=>exact .box _ _ _ _ _ h (Mt Le hc)
 |row n el w cs ds x b h hc=>exact .row _ _ _ _ _ _ _ h (Mt Le hc)
 |iter n s p x b h=>exact .iter _ _ _ _ _ h
theorem P2{c:D}(hk:c.kn=true):(qfx f c).kn=true/\(qfx f c).cells=lm (qd5 f) c.cells:=by
 cases c<;>first
  |(simp[D.kn]at hk;done)
  |exact⟨rfl,rfl⟩
  |(refine⟨rfl,?_⟩;simp[qfx,qd5,D.cells,lm])
def qjS{x:Value}{el n:Nat}{cs ds:List D}(h:RepL ρ cs ds)(hp:D7 n cs=true):RFz Hf (.row x el n ds) (.row x el n (lm (qfx f) ds)):=by
 have a:=Ct h hp;have key:∀l:List D,jO n l->∀d∈l,d.kn=true/\d.cells.length=n:=by
  intro l
  induction l<;>simp_all
 refine⟨rfl,rfl,rfl,by grind [wR],λd b=>?_,λm c c' h1 h2 j e k h3 h4=>?_⟩;grind [wR,P2]
 ·rw[wR,qCu,h1]at h2;cases h2;rw[(P2 (key ds a c (qCg h1)).1).2]at h4;grind [WI,SV]
end
noncomputable def Tr.mapO{α:Type}(f:α->Option α)(t:Tr α):Tr α:=Tr.rec (motive:=λ_=>Tr α) .e (λv _ _ l r=> .n (Option.rec none f v) l r) t
def Tr.get_mapO{α:Type}(f:α->Option α):∀(t:Tr α) (k:Nat),Tr.get (Tr.mapO f t) k=(Tr.get t k).bind f
 | .e,k=>rfl
 | .n v l r,k=>by
   show Tr.get (.n (Option.rec none f v) (Tr.mapO f l) (Tr.mapO f r)) k=_;rw[Tr.get_n,Tr.get_n];split
   ·cases v<;>rfl
   ·split
    ·exact Tr.get_mapO f l _
    ·exact Tr.get_mapO f r _
def qBK:Res->Option Nat
 | .box n _=>some n
 | .iter n _ _=>some n
 | .row (.int _ n) _ _ _=>some n.toNat
 | _=>none
def f1(i j x:Nat):Nat:=match Nat.beq x i with
 |true=>j
 |false=>x
noncomputable def VE(i j:Nat)(sm nw:List Nat)(s:XS):Option XS:=match s.h.he.get i with
 |none=>none
 | some r=>match s.h.he.get j,gR i (f1 i j) r with
   |none,some r'=>if Nat.beq i j then some s else some ⟨s.l.map (rn (f1 i j)),⟨((Tr.mapO (gR i (f1 i j)) s.h.he).del i).set j r',sm,nw,s.h.n⟩⟩
   | _,_=>none
noncomputable def qjX(i:Nat)(s:XS):Option XS:=match s.h.he.get i with
 |none=>some s
 | some r=>match qBK r with
   |none=>none
   |some m=>if Nat.ble 1000 i then some s else VE i (1000+m) s.h.sm ((1000+m)::s.h.nw) s
def qxK:CI->List Nat
 | .op _ _ (.store (some r) _ _ _)=>[r]
 | .op _ _ (.append (some r) _ _ _ _ _)=>[r]
 | _=>[]
def qq0(l:List CI):List Nat:=l.flatMap qxK
def qw3:CC->List Nat
 | .regd p _=>qq0 p
 | .seq (.regd p _) _=>qq0 p
 | _=>[]
noncomputable def VD(l:List Nat):XS->Option XS:=List.rec (motive:=λ_=>XS->Option XS) (λs=>some s) (λr _ a s=>match sg s.l r with
 | .bptr i _ _=>match Nat.beq i r with
   |true=>a s
   | false=>match VE i r (r::s.h.sm) s.h.nw s with
     |some b=>a b
     |none=>none
 | .own i _=>match Nat.beq i r with
   |true=>a s
   | false=>match VE i r (r::s.h.sm) s.h.nw s with
     |some b=>a b
     |none=>none
 | _=>none) l
noncomputable def qnx(l:List Nat):XS->Option XS:=List.rec (motive:=λ_=>XS->Option XS) (λs=>some ⟨s.l,⟨s.h.he, [],s.h.nw,s.h.n⟩⟩) (λi _ a s=>match qjX i s with
 |some b=>a b
 |none=>none) l
noncomputable def qjV(s:XS):Option XS:=match s.h.sm with
 | []=>some s
 |i::l=>qnx (i::l) s
def XRep(ρ:VL)(s:XS)(a:Sg)(H:ab):Prop:=ρ.length=s.h.n/\SRep ρ (sg s.l) a/\HRep ρ s.h.he H
def qof{ρ:VL}{i j:Nat}{r r' s:Res}(a:gR i (f1 i j) r=some r')(h:RepR ρ r s):∃c,RepR ρ r' c/\RFe (λ_=>none) s c:=by
 unfold gR at a;cases hh:qrM i r with
 |false=>rw[hh]at a;cases a;exact⟨s,h, .inl rfl⟩
 | true=>
   rw[hh]at a;cases ho:ql6 r with
   |false=>simp_all
   | true=>
     rw[ho]at a;cases a;refine⟨qtS (f1 i j) s,qjR h, .inr ?_⟩;cases h with
     |box n cs ds x b hn hc=>exact⟨rfl,by grind [wR],WI Zo _⟩
     |row n el w cs ds x b hn hc=>exact qjS hc ho
     |iter n s p x b hn=>rfl
theorem qaK{ρ:VL}{i j:Nat}{sm nw:List Nat}{s K:XS}(h:VE i j sm nw s=some K){u:Sg}{H:ab}(L:XRep ρ s u H):∃b H',Wk u H b H'/\XRep ρ K b H':=by
 have same:∃b H',Wk u H b H'/\XRep ρ s b H':=⟨u,H,λE a w h=>h,L⟩
 unfold VE at h;split at h;grind
 ·rename_i r hi;split at h
  ·rename_i r' Y Z;split at h;grind
   ·rename_i hs;cases h;have M:i≠j:=λe=>hs (by grind)
    obtain⟨hn,C,N⟩:=L;have hex:∀x,∃o:Option Res,(∀p A,s.h.he.get x=some p->gR i (f1 i j) p=some A->∃k,o=some k/\RepR ρ A k)/\(∀k,o=some k->∃F,H x=some F/\RFe (λ_=>none) F k):=λx=>by
     cases c:s.h.he.get x with
     |none=>exact⟨none,λp A h=>(by cases h),λk h=>(by cases h)⟩
     | some p=>
       cases I:gR i (f1 i j) p with
       |none=>exact⟨none,λJ A h h2=>(by grind),λk h=>(by cases h)⟩
       | some A=>
         obtain⟨F,k1,O⟩:=N x p c;obtain⟨k,k3,k4⟩:=qof I O;refine⟨some k,λJ Q h h2=>?_,λS h=>?_⟩;grind;grind
    obtain⟨G,hG⟩:=qD4 hex;refine⟨λt=>rn (f1 i j) (u t),λx=>if x=j then G i else if x=i then none else G x,?_,hn,λt=>?_,λx r c=>?_⟩
    ·refine X8 (Hf:=λ_=>none) (λx=>if x=j then i else x) (λt=>qrT _) (λx r c=>?_) (λx y r q c hy e=>?_) (λi r h=>by cases h);grind;grind
    ·show Rep ρ (sg (s.l.map (rn (f1 i j))) t) _;have U:=C t;unfold sg at U ⊢;rw[Tr.get_map];cases c:s.l.get t with
     |none=>exact .any _
     |some d=>grind [qnv]
    ·rcases Tr.get_set c with⟨rfl,rfl⟩|⟨e,c⟩
     grind
     ·obtain⟨e2,c⟩:=Tr.get_del c;rw[Tr.get_mapO]at c;cases W:s.h.he.get x<;>grind
  grind
def qjW{ρ:VL}{i:Nat}{s b:XS}(h:qjX i s=some b){c:Sg}{H:ab}(d:XRep ρ s c H):∃a H',Wk c H a H'/\XRep ρ b a H':=by
 grind [Wk,XRep,qjX,qaK]
theorem Sa{ρ:VL} :∀(l:List Nat) {s b:XS},VD l s=some b->∀{d:Sg} {H:ab},XRep ρ s d H->∃c H',Wk d H c H'/\XRep ρ b c H'
 | [],s,b,h,d,H,j=>by
   cases h;exact⟨d,H,λE a w h=>h,j⟩
 | r::l,s,b,h,d,H,j=>by
   have go:∀i,(match Nat.beq i r with
    |true=>VD l s
    | false=>match VE i r (r::s.h.sm) s.h.nw s with
      |some b=>VD l b
      |none=>none)=some b->∃c H',Wk d H c H'/\XRep ρ b c H':=λi h=>by
    split at h
    ·exact Sa l h j
    ·split at h
     ·rename_i A h1;obtain⟨p,C,q,t⟩:=qaK h1 j;obtain⟨k,u,x,y⟩:=Sa l h t;exact⟨k,u,λE a w h=>x E a w (q E a w h),y⟩
     grind
   have h:(match sg s.l r with
    | .bptr i _ _=>match Nat.beq i r with
      |true=>VD l s
      | false=>match VE i r (r::s.h.sm) s.h.nw s with
        |some b=>VD l b
        |none=>none
    | .own i _=>match Nat.beq i r with
      |true=>VD l s
      | false=>match VE i r (r::s.h.sm) s.h.nw s with
        |some b=>VD l b
        |none=>none
    | _=>none)=some b:=h
   split at h
   ·exact go _ h
   ·exact go _ h
   grind
theorem qaJ{ρ:VL} :∀(l:List Nat) {s b:XS},qnx l s=some b->∀{c:Sg} {H:ab},XRep ρ s c H->∃d H',Wk c H d H'/\XRep ρ b d H'
 | [],s,b,h,c,H,j=>by
   cases h;exact⟨c,H,λE a w h=>h,j⟩
 | i::l,s,b,h,c,H,j=>by
   have h:(match qjX i s with
    |some b=>qnx l b
    |none=>none)=some b:=h
   split at h
   ·rename_i y h1;obtain⟨p,A,q,r⟩:=qjW h1 j;obtain⟨k,t,u,x⟩:=qaJ l h r;exact⟨k,t,λE a w h=>u E a w (q E a w h),x⟩
   grind
def qaI{ρ:VL}{s d:XS}(h:qjV s=some d){c:Sg}{H:ab}(j:XRep ρ s c H):∃b H',Wk c H b H'/\XRep ρ d b H':=by
 unfold qjV at h;split at h
 ·cases h;exact⟨c,H,λE a w h=>h,j⟩
 grind [qaJ]
end X
namespace X
def qiM(S:Nat->Spc)(cf:CF):Prop:=∀f args h r b,cf f args h=some (r,b)->∀(ρ:VL) (ds:List D) (H:ab) (K:D->ab->Prop) (d:Nat),ρ.length=h.n->RepL ρ args ds->HRep ρ h.he H->
 (∀(a:VL) (r':D) (H':ab),ρ <+:a->a.length=b.n->Rep a r r'->HRep a b.he H'->K r' H')->(S f).pt d ds H K
def qlF(S:Nat->Spc)(pf:PF):Prop:=∀f args r,pf f args=some r->∀(ρ:VL) (ds:List D),RepL ρ args ds->∃a,S f= .pure a/\a.pre ds/\∀r',a.post ds r'->Rep ρ r r'
section
variable {ρ:VL}{l:SL}{σ:Sg}{H:ab}{S:Nat->Spc}{cf:CF}{pf:PF}
theorem SRep.up{a:VL}(hp:ρ <+:a)(h:SRep ρ (sg l) σ){dst:Option Nat}{d j:D}(k:Rep a d j):SRep a (sg (uO l dst d)) (fG σ dst j):=λt=>by
 cases dst with
 |none=>exact(h t).mono hp
 | some s=>
   have b:=h t;simp[upd];unfold sg at b ⊢;split
   ·rename_i p c;rcases Tr.get_set c with⟨rfl,rfl⟩|⟨e,c⟩
    grind
    ·rw[if_neg e];rw[c]at b;exact b.mono hp
   ·exact .any _
theorem qbg{g:Option (Nat×Bool)}{b:Bool}(h:quZ g l=some b)(c:SRep ρ (sg l) σ){d no:Sg->Prop}(j:b=true->∀a,SRep ρ (sg l) a->d a)(hn:b=false->∀a,SRep ρ (sg l) a->no a):mN g σ d no:=by
 cases g with
 |none=>cases h;exact j rfl σ c
 | some p=>
   let ⟨s,b0⟩:=p
   simp[quZ]at h;have hs:=c s;unfold mN;dsimp only;have same:∀t:Bool,sg l s= .v (.bool t)->SRep ρ (sg l) (upd σ s (.v (.bool t))):=λt e r=>by
    unfold upd;split
    ·rename_i er;subst er;rw[e];exact .v _
    ·exact c r
   generalize k:sg l s=q at h hs;generalize σ s=u at hs;cases hs<;>try (cases h)
   grind
   ·rename_i v;cases v<;>try (cases h;done)
    simp[qCq]at h;refine⟨λe=>j (by grind) _ (same b0 (by grind)),λe=>hn (by grind) _ (same (!b0) (by grind))⟩
theorem qeb(k:SRep ρ (sg l) σ){h b:XH}(p:HRep ρ h.he H)(hn:ρ.length=h.n){c:COp}{dst:Option Nat}{d:D}(q:xW c dst (sg l) h=some (d,b)){K:D->ab->Prop}
 (r:∀(a:VL) (j:D) (H':ab),ρ <+:a->a.length=b.n->Rep a d j->HRep a b.he H'->K j H'):bj c dst σ H K:=by
 grind [xW,qoi]
def Lu(b:qiM S cf){h c:XH}(p:HRep ρ h.he H)(hn:ρ.length=h.n){f:Nat}{args ds:List D}{d:D}(j:TZ h (cf f args ⟨h.he, [], [],h.n⟩)=some (d,c))(q:RepL ρ args ds){K:D->ab->Prop}{t:Nat}
 (r:∀(a:VL) (k:D) (H':ab),ρ <+:a->a.length=c.n->Rep a d k->HRep a c.he H'->K k H'):(S f).pt t ds H K:=by
 unfold TZ at j;split at j
 ·rename_i s h1 hc;cases j;exact b f args _ _ h1 hc ρ ds H K t hn q p r
 grind
theorem qkY(q:qiM S cf)(j:SRep ρ (sg l) σ){h u:XH}(s:HRep ρ h.he H)(hn:ρ.length=h.n){c:COp}{dst:Option Nat}{d:D}(p:qkZ cf c dst (sg l) h=some (d,u)){K:D->ab->Prop}
 (t:∀(k:VL) (x:D) (H':ab),ρ <+:k->k.length=u.n->Rep k d x->HRep k u.he H'->K x H'):ax S c dst σ H K:=by
 cases c
 case call f args=>exact Lu q s hn p (zR j args) t
 case callb r f args=>exact Lu q s hn p (zR j args) t
 case callv f args=>
  simp[qkZ]at p;simp[ax];have w:=aV j f;generalize ev (sg l) f=a at p w;generalize ev σ f=b at w;cases w<;>try (cases p)
  rename_i g cs ds hl hc;exact Lu q s hn p ((zR j args).append ⟨hl,hc⟩) t
 all_goals (simp[qkZ]at p;exact qeb j s hn p t)
theorem Tg(k:qiM S cf):∀(ls:List CI) (ρ:VL) (s p:XS) (σ:Sg) (H:ab),qvg cf ls s=some p->XRep ρ s σ H->∀K:Sg->ab->Prop,(∀(c:VL) (b:Sg) (H':ab),ρ <+:c->XRep c p b H'->K b H')->DQ S ls σ H K
 | [],ρ,s,p,σ,H,h,j,K,q=>by cases h;exact q ρ σ H (List.prefix_refl ρ) j
 | ci::r,ρ,s,p,σ,H,h,j,K,q=>by
   have h:qlS cf ci s (qvg cf r)=some p:=h;unfold qlS at h;split at h;grind
   ·simp[DQ];split at h
    ·rename_i t;split at h
     ·rename_i d h1 ho;refine qbg t j.2.1 (λ_ b a=>?_) (λe=>by cases e);refine qkY k a j.2.2 j.1 ho λu E A hp w C x=>?_
      exact Tg k r u _ p _ A h ⟨w,SRep.up hp a C,x⟩ K λc b H' y=>q c b H' (hp.trans y)
     grind
    ·rename_i t;refine qbg t j.2.1 (λe=>by cases e) (λ_ b a=>?_);exact Tg k r ρ _ p _ H h ⟨j.1,SRep.up (List.prefix_refl ρ) a .undef,j.2.2⟩ K q
    grind
theorem qo4{c:COp}(h:qrC c=true){dst:Option Nat}{σ:Sg}{Hr H:ab}{K:D->ab->Prop}(a:bj c dst σ H K):av S c dst σ Hr H K:=by
 cases c<;>try (cases h)
 all_goals first
  |exact a
  |(rename_i im x;cases im<;>first|exact a|(done))
theorem qm9(d:SRep ρ (sg l) σ){r sz:Nat}{x y:Operand}(h:qtP (some r) (ev (sg l) x)=true){dst:Option Nat}{Hr H:ab}{K:D->ab->Prop}(c:bj (.store (some r) sz x y) dst σ H K):av S (.store (some r) sz x y) dst σ Hr H K:=by
 have j:=aV d x;refine⟨c.1,c.2.1,?_⟩;have c:=c.2.2;generalize ev (sg l) x=a at h j;generalize ev σ x=b at j c;cases j<;>try (cases h)
 all_goals first|exact c.elim|skip
 all_goals
  have e:=Nat.eq_of_beq_eq_true (show Nat.beq _ r=true from h);grind
theorem qo3(t:SRep ρ (sg l) σ){he J u:HE}{H Hr:ab}(C:HRep ρ he H)(E:HRep ρ J Hr){n L:Nat}(hn:ρ.length=n){rt:Option Nat}{el w bytes:Nat}{x y:Operand}{dst:Option Nat}{d:D}(hb:qtP rt (ev (sg l) x)=true)
 (h:qd1 el w bytes (ev (sg l) x) (U0 w (ev (sg l) y) J) dst he n=some (d,u,L)) {K:D->ab->Prop}
 (M:∀(j:VL) (N:D) (H':ab),ρ <+:j->j.length=L->Rep j d N->HRep j u H'->K N H'):av S (.append rt el w bytes x y) dst σ Hr H K:=by
 have one:∀y:Value×Nat,ρ <+:ρ++ [y]/\(ρ++ [y]).length=n+1/\(ρ++ [y])[n]? =some y:=λy=>⟨VI ρ y,by grind,by grind⟩
 simp only[qd1]at h;simp[av];split at h
 ·rename_i es2 F;refine qac E (aV t y) F λO p=>?_
  have rx:=aV t x;generalize ev (sg l) x=a at h hb rx;generalize ev σ x=b at rx;cases rx<;>try (cases h)
  ·split at h<;>rename_i e<;>try (cases e;done)
   ·cases e;cases rt with
    |some r=>cases hb
    | none=>
      split at h
      ·split at h
       ·rename_i hb;cases h;have hb:=NX hb;rw[p.1]at hb;refine⟨hb.1,hb.2,λv=>?_⟩
        let ⟨q,I,A⟩:=one (v,0)
        exact M _ _ _ q I (.own _ _ _ _ A) ((C.mono q).set (.row _ _ _ _ _ _ _ A (p.mono q)))
       grind
      grind
   grind
  ·rename_i id m x b hm;dsimp only at h ⊢;cases rt with
   |none=>cases hb
   | some r=>
     have e:=Nat.eq_of_beq_eq_true (show Nat.beq id r=true from hb);subst e;split at h
     ·rename_i W U w' es Q;split at h
      ·rename_i hb;simp only[qCi]at hb;cases h;obtain⟨k,rfl⟩:=D3 C Q
       let ⟨ds,h1,h2⟩:=zd (c:=0) (y:= .bool true) C Q hb.1.1.1 hm
       have s:=NX hb.2;rw[p.1,h2.1]at s;dsimp only;rw[h1];refine⟨rfl,rfl,Nat.eq_of_beq_eq_true hb.1.1.2,Nat.eq_of_beq_eq_true hb.1.2,s.1,s.2,λv=>?_⟩
       let ⟨q,I,A⟩:=one (v,0)
       exact M _ _ _ q I (.own _ _ _ _ A) ((C.mono q).set (.row _ _ _ _ _ _ _ A ((h2.append p).mono q)))
      ·cases h
     ·cases h
  ·cases hb
 grind
theorem qf7:∀(ls:List CI) {b:HE} {Hr:ab},HRep ρ b Hr->HRep ρ (mk ls b) (bL ls Hr)
 | [],b,Hr,h=>h
 | .frz _ _::_,b,Hr,h=>h
 | .op d g c::l,b,Hr,h=>λi r hi=>by
   have p:=qf7 l h;have hi:(qxL (c.wid d) (mk l b)).get i=some r:=hi;unfold qxL at hi;simp only[bL];split at hi
   ·rename_i t e;split at hi
    ·cases hi
    ·rename_i q
     let ⟨s,hi⟩:=Tr.get_del hi
     have a:¬EB (CI.op d g c).wid i:=by
      show ¬EB (c.wid d) i;rw[e];intro j;have j:Pi i=Pi t:=j;have k:Pi t≠0:=λu=>q (by simp_all)
      unfold Pi at j k;grind
     rw[if_neg a];exact p i r hi
   ·have a:¬EB (CI.op d g c).wid i:=by
     show ¬EB (c.wid d) i;simp_all
    rw[if_neg a];exact p i r hi
theorem Tf(u:qlF S pf):∀(ls:List CI) (ρ:VL) (y:HE) (Hr:ab) (s w:XS) (σ:Sg) (H:ab),qvf pf ls y s=some w->HRep ρ y Hr->XRep ρ s σ H->∀K:Sg->ab->Prop,(∀(x:VL) (p:Sg) (H':ab),ρ <+:x->XRep x w p H'->K p H')->kb S ls σ Hr H K
 | [],ρ,y,Hr,s,w,σ,H,h,q,t,K,J=>by cases h;exact J ρ σ H (List.prefix_refl ρ) t
 | ci::r,ρ,y,Hr,s,w,σ,H,h,q,t,K,J=>by
   have h:qwM pf ci r y s (qvf pf r)=some w:=h;cases ci with
   |frz a b=>exact Tf u r ρ _ _ s w σ H h (qf7 r q) t K J
   | op dst g c=>
     simp[qwM]at h;simp[kb];split at h
     ·rename_i L;refine qbg L t.2.1 (λ_ p j=>?_) (λe=>by cases e);have go:∀(k:VL) (d A:D) (h1:XH) (I:ab),qvf pf r y ⟨uO s.l dst d,h1⟩=some w->ρ <+:k->k.length=h1.n->Rep k d A->HRep k h1.he I->kb S r (fG p dst A) Hr I K:=λk d A h1 I h hp C E F=>
       Tf u r k y Hr _ w _ I h (q.mono hp) ⟨C,SRep.up hp j E,F⟩ K λx p H' M=>J x p H' (hp.trans M)
      split at h
      ·rename_i f args _h;split at h
       ·rename_i d E
        let ⟨pc,h1,h2,h3⟩:=u _ _ _ E ρ _ (zR j args)
        simp[h1];exact⟨h2,λr' N=>go ρ d r' s.h H h (List.prefix_refl ρ) t.1 (h3 r' N) t.2.2⟩
       grind
      grind [X.XRep,qm9,qeb]
      ·split at h
       ·rename_i O;split at h
        ·rename_i d h1 Q;unfold xH at Q;split at Q
         ·rename_i d0 Z n' U;cases Q;exact qo3 j t.2.2 q t.1 O U λk A I hp C E F=>go k _ A _ I h hp C E F
         grind
        grind
       grind
      ·split at h
       ·split at h;grind [X.XRep,qo4,qeb];grind
       ·split at h
        ·rename_i W;split at h
         ·rename_i d Y;exact(iB W).2 (IU j q Y λA E=>go ρ d A s.h H h (List.prefix_refl ρ) t.1 E t.2.2)
         grind
        grind
     ·rename_i L;refine qbg L t.2.1 (λe=>by cases e) (λ_ p j=>?_);exact Tf u r ρ y Hr _ w _ H h q ⟨t.1,SRep.up (List.prefix_refl ρ) j .undef,t.2.2⟩ K J
     grind
end
def EL:CC->CC
 | .seq a b=> .seq (EL a) (.cut 0 (EL b))
 | .ite c a b=> .ite c (EL a) (EL b)
 | .block i b=> .block i (EL b)
 | .loop k b=> .loop k (EL b)
 |c=>c
noncomputable def Mr(cf:CF)(pf:PF)(k:CC->XS->Option (Ex×XS))(c:CC)(s:XS):Option (Ex×XS):=match c with
 | .skip=>some (.norm,s)
 | .reg l=>match qvg cf l s with
   |some q=>some (.norm,q)
   |none=>none
 | .regd p t=>match qvf pf p (mk p s.h.he) s with
   | some d=>match qvg cf t d with
     |some q=>some (.norm,q)
     |none=>none
   |none=>none
 | .seq a b=>match k a s with
   | some (.norm,d)=>match qjV d with
     | some u=>match VD (qw3 b) u with
       |some w=>k b w
       |none=>none
     |none=>none
   |r=>r
 | .ite c a b=>match ev (sg s.l) c with
   | .v (.bool true)=>k a s
   | .v (.bool false)=>k b s
   | _=>none
 | .block i b=>match k b s with
   | some (.ex j,d)=>match Nat.beq j i with
     |true=>some (.norm,d)
     |false=>some (.ex j,d)
   |r=>r
 | .loop key b=>match k b s with
   | some (.norm,d)=>match qjV d with
     |some u=>k (.loop key b) u
     |none=>none
   |r=>r
 | .exit i=>some (.ex i,s)
 | .ret=>some (.ret,s)
 | _=>none
noncomputable def run(cf:CF)(pf:PF)(k:Nat):CC->XS->Option (Ex×XS):=Nat.rec (motive:=λ_=>CC->XS->Option (Ex×XS)) (λ_ _=>none) (λ_ a c s=>Mr cf pf a c s) k
section
variable {S:Nat->Spc}{cf:CF}{pf:PF}
theorem qns(hcf:qiM S cf)(hpf:qlF S pf):∀(k:Nat) (c:CC) (s:XS) (e:Ex) (u:XS),run cf pf k c s=some (e,u)->∀(ρ:VL) (σ:Sg) (H:ab),XRep ρ s σ H->∀K:Ex->Sg->ab->Prop,
 (∀(J:VL) (L:Sg) (H':ab),ρ <+:J->XRep J u L H'->K e L H')->vc S (EL c) K σ H:=by
 intro k
 induction k using Nat.strongRecOn with
 | _ k Z=>
 intro c s e u h ρ σ H C K U;cases k with
 |zero=>cases h
 |succ k=>
 have h:Mr cf pf (run cf pf k) c s=some (e,u):=h;cases c with
 |skip=>cases h;exact U ρ σ H (List.prefix_refl ρ) C
 | reg l=>
   simp[Mr]at h;split at h
   ·rename_i F hl;cases h;exact Tg hcf l ρ s u σ H hl C _ U
   grind
 | regd p t=>
   simp[Mr]at h;split at h
   ·rename_i F I;split at h
    ·refine Tf hpf p ρ _ _ s F σ H I (qf7 p C.2.2) C _ λd y H1 hp h1=>?_
     grind [Tg]
    grind
   grind
 | seq a b=>
   simp[Mr]at h;simp[EL,vc];split at h
   ·rename_i F h1;split at h
    ·rename_i s2 h2;split at h
     ·rename_i s3 h3;refine Z k (Nat.lt_succ_self k) a s _ _ h1 ρ σ H C _ λd y H1 hp r=>?_
      let ⟨M,H2,hw,A⟩:=qaI h2 r
      let ⟨N,H3,hw3,W⟩:=Sa _ h3 A
      exact⟨N,H3,λE a w h=>hw3 E a w (hw E a w h),Z k (Nat.lt_succ_self k) b s3 e u h d N H3 W K λJ L H' hp'=>U J L H' (hp.trans hp')⟩
     grind
    grind
   ·cases e<;>grind
 | ite c a b=>
   simp[Mr]at h;simp[EL,vc];have hc:=aV C.2.1 c;generalize ev (sg s.l) c=q at h hc;generalize ev σ c=q' at hc;cases hc<;>try (cases h;done)
   grind
 | block i b=>
   simp[Mr]at h;simp[EL,vc];split at h
   ·rename_i j F h1;refine Z k (Nat.lt_succ_self k) b s _ _ h1 ρ σ H C _ λd y H1 hp r=>?_
    dsimp only;split at h
    ·rename_i e1;cases h;rw[if_pos (Nat.eq_of_beq_eq_true e1)];grind
    ·rename_i e1;cases h;rw[if_neg (Nat.ne_of_beq_eq_false e1)];grind
   ·rename_i Y;refine Z k (Nat.lt_succ_self k) b s e u h ρ σ H C _ λd y H1 hp r=>?_
    cases e<;>grind
 | loop key b=>
   simp[EL,vc];have en:∀j s,run cf pf j (.loop key b) s=some (e,u)->e≠ .norm:=by
    intro j
    induction j with
    |zero=>intro s h;cases h
    | succ j ih=>
      intro s h;have h:Mr cf pf (run cf pf j) (.loop key b) s=some (e,u):=h;simp[Mr]at h;split at h
      ·split at h
       ·exact ih _ h
       ·cases h
      ·rename_i Y;intro e1;subst e1;exact Y u h
   refine⟨⟨Nat×Sg×ab,λx=>x.1<=k+1/\∃(F:XS) (d:VL),ρ <+:d/\XRep d F x.2.1 x.2.2/\run cf pf x.1 (.loop key b) F=some (e,u),λx=>x.2.1,λx=>x.2.2,λx=>x.1⟩,⟨(k+1,σ,H),⟨qCj _,s,ρ,List.prefix_refl ρ,C,h⟩,λ_ _ _ h=>h⟩,?_⟩;rintro⟨j,y,H1⟩ ⟨hj,F,d,I,r,h1⟩;dsimp only at hj h1 r ⊢;cases j with
   |zero=>cases h1
   | succ j=>
     have h1:Mr cf pf (run cf pf j) (.loop key b) F=some (e,u):=h1;simp[Mr]at h1;split at h1
     ·rename_i s2 h2;split at h1
      ·rename_i s3 h3;refine Z j (by lia) b F _ _ h2 d y H1 r _ λO M H2 Q A=>?_
       let ⟨N,H3,hw,W⟩:=qaI h3 A
       exact⟨(j,N,H3),⟨by lia,s3,O,I.trans Q,W,h1⟩,hw,Nat.lt_succ_self j⟩
      ·cases h1
     ·rename_i Y;refine Z j (by lia) b F e u h1 d y H1 r _ λO M H2 Q A=>?_
      have e2:=en (k+1) s h;cases e with
      |norm=>exact absurd rfl e2
      |ex i=>exact U O M H2 (I.trans Q) A
      |ret=>exact U O M H2 (I.trans Q) A
 |exit i=>cases h;exact U ρ σ H (List.prefix_refl ρ) C
 |ret=>cases h;exact U ρ σ H (List.prefix_refl ρ) C
 |cut _ _=>cases h
 |keep _ _ _=>cases h
end
noncomputable def qcH(σ:Sg)(he:HE):List ak->Option (List D)
 | []=>some []
 | .tmp t::r=>(qcH σ he r).map λl=>σ t::l
 | .cell t agg sz::r=>match cU (.load agg sz (.tmp t)) σ he with
   |some d=>(qcH σ he r).map λl=>d::l
   |none=>none
def R6{ρ:VL}{b σ:Sg}{he:HE}{H:ab}(a:SRep ρ b σ)(j:HRep ρ he H):∀(rs:List ak) (ls:List D),qcH b he rs=some ls->∀K:List D->Prop,(∀ds,RepL ρ ls ds->K ds)->yb rs σ H K
 | [],ls,h,K,c=>by cases h;exact c [] .nil
 | .tmp t::r,ls,h,K,c=>by
   simp[qcH]at h;obtain⟨l,h,rfl⟩:=h;exact R6 a j r l h _ λds k=>c _ (.cons (a t) k)
 | .cell t agg sz::r,ls,h,K,c=>by
   simp[qcH]at h;split at h
   ·rename_i d k;simp[qCn]at h;obtain⟨l,h,rfl⟩:=h;exact IU a j k λs p=>R6 a j r l h _ λds q=>c _ (.cons p q)
   grind
noncomputable def num:Nat->List D->SL->SL
 | _, [],l=>l
 |i,d::r,l=>num (i+1) r (l.set i d)
def qaV{ρ:VL} :∀(cs:List D) (i:Nat) (l:SL) (σ:Sg),SRep ρ (sg l) σ->(∀k c,cs[k]? =some c->Rep ρ c (σ (i+k)))->SRep ρ (sg (num i cs l)) σ
 | [],i,l,σ,h,_=>h
 | c::cs,i,l,σ,h,hc=>by
   refine qaV cs (i+1) _ σ (λt=>?_) (λk c' hk=>by have:=hc (k+1) c' (by grind);grind);have b:=h t;unfold sg at b ⊢;split
   ·rename_i d a;rcases Tr.get_set a with⟨rfl,rfl⟩|⟨e,a⟩
    ·exact hc 0 _ rfl
    grind
   ·exact .any _
noncomputable def qAw:D->Bool
 | .v _=>true
 | .undef=>true
 | _=>false
noncomputable def qxj:D->Bool
 | .agg cs=>la (λd=>!qAw d) cs==false
 |d=>qAw d
noncomputable def qxi:D->Bool
 | .tup cs=>la (λd=>!qxj d) cs==false
 |d=>qxj d
noncomputable def qoB(l:List Nat)(he:HE):HE:=List.rec (motive:=λ_=>HE->HE) (λh=>h) (λi _ a h=>a (h.del i)) l he
def NE:∀(l:List Nat) (he:HE) (i:Nat) (r:Res),(qoB l he).get i=some r->he.get i=some r
 | [],he,i,r,h=>h
 |j::l,he,i,r,h=>(Tr.get_del (NE l (he.del j) i r h)).2
noncomputable def qsh(d:D)(h:XH):XH:=Bool.rec h ⟨qoB h.nw (qoB h.sm h.he), [], [],h.n⟩ (qxi d)
theorem qsg(d:D)(h:XH):(qsh d h).n=h.n:=by
 unfold qsh;cases qxi d<;>rfl
theorem qk6{ρ:VL}{d:D}{h:XH}{H:ab}(a:HRep ρ h.he H):HRep ρ (qsh d h).he H:=λi r hi=>by
 unfold qsh at hi;cases hp:qxi d with
 |false=>rw[hp]at hi;exact a i r hi
 |true=>rw[hp]at hi;exact a i r (NE _ _ _ _ (NE _ _ _ _ hi))
structure Fn where
 cc:CC
 rs:List ak
 N:Nat
noncomputable def qxT(l:List (Nat×Fn))(k:Nat):Option Fn:=List.rec (motive:=λ_=>Option Fn) none (λp _ a=>Bool.rec a (some p.2) (Nat.beq p.1 k)) l
def qa3:∀(l:List (Nat×Fn)) (k:Nat) (fn:Fn),qxT l k=some fn->(k,fn) ∈l
 | [],k,fn,h=>by cases h
 | p::l,k,fn,h=>by
   have h:Bool.rec (motive:=λ_=>Option Fn) (qxT l k) (some p.2) (Nat.beq p.1 k)=some fn:=h;cases e:Nat.beq p.1 k with
   | true=>
     rw[e]at h;grind [Nat.eq_of_beq_eq_true]
   | false=>
     rw[e]at h;exact qDU _ (qa3 l k fn h)
noncomputable def qxd(he:HE)(args:List D):Bool:=la (λa=>match a with
 | .bptr i _ _=>(match he.get i with
   |some (.box _ cs)=>la (λc=>!qxj c) cs
   | _=>true)
 | .eptr .. =>true
 | _=>false) args==false
noncomputable def qhj(args:List D)(d:D)(h:XH):XH:=Bool.rec h (qsh d h) (qxd h.he args)
def qoz(args:List D)(d:D)(h:XH):(qhj args d h).n=h.n:=by
 unfold qhj;cases qxd h.he args
 all_goals grind [qsg]
def WZ{ρ:VL}{args:List D}{d:D}{h:XH}{H:ab}(a:HRep ρ h.he H):HRep ρ (qhj args d h).he H:=by
 unfold qhj;cases qxd h.he args;lia;grind [qk6]
noncomputable def vM(fn:Fn)(args:List D)(s:XS):Option (D×XH):=match qcH (sg s.l) s.h.he fn.rs with
 |some ds=>some (dI ds,qhj args (dI ds) s.h)
 |none=>none
noncomputable def qqQ(a:Nat->Option Fn)(pf:PF)(k:Nat)(cf:CF):CF:=λf args h=>match a f with
 | some fn=>match Nat.ble args.length fn.N with
   | true=>match run cf pf k fn.cc ⟨num 0 args .e,h⟩with
     |some (.ex _,_)=>none
     |some (_,s)=>vM fn args s
     |none=>none
   |false=>none
 | none=>match pf f args with
   |some d=>some (d,h)
   |none=>none
noncomputable def YS(a:Nat->Option Fn)(pf:PF)(k:Nat):CF:=Nat.rec (motive:=λ_=>CF) (λ_ _ _=>none) (λk b=>qqQ a pf k b) k
def qkX(cf:CF)(f:Nat):PT:=λd ds H K=>∃(args:List D) (h:XH) (r:D) (b:XH) (ρ:VL),cf f args h=some (r,b)/\ρ.length=h.n/\RepL ρ args ds/\HRep ρ h.he H/\
 ((∀(a:VL) (r':D) (H':ab),ρ <+:a->a.length=b.n->Rep a r r'->HRep a b.he H'->K r' H')\/(h.he= .e/\∀(a:VL) (r':D) (H':ab),Rep a r r'->HRep a b.he H'->∃q,FrzTo H' r' q/\K q H))
def qkW(cf:CF)(f:Nat):nt (qkX cf f):=λd ds H K s hk ⟨args,h,r,p,ρ,h1,h2,h3,h4,h5⟩=>⟨args,h,r,p,ρ,h1,h2,h3,h4,h5.imp (λh5 j r' H' a b c d=>hk _ _ (h5 j r' H' a b c d)) λh5=>⟨h5.1,λj r' H' a b=>(h5.2 j r' H' a b).imp λq k=>⟨k.1,hk _ _ k.2⟩⟩⟩
def qAU(cf:CF)(f:Nat):Spc:= .gen _ (qkW cf f)
def R7{ρ:VL}{cs ds:List D}(h:RepL ρ cs ds):Rep ρ (dI cs) (dI ds):=by
 match cs,ds,h with
 | [], [],h=>exact .tup _ _ h.1 h.2
 | [c], [d],h=>exact h.2 0 c d rfl rfl
 | _::_::_,_::_::_,h=>exact .tup _ _ h.1 h.2
 | [],_::_,h=>grind [X.RepL]
 | _::_, [],h=>grind [X.RepL]
 | [_],_::_::_,h=>grind [X.RepL]
 | _::_::_, [_],h=>grind [X.RepL]
noncomputable def qiU(a:Nat->Option Fn)(pf:PF)(T:Nat->Spc)(k:Nat):Nat->Spc:=λf=>match a f with
 |some _=>qAU (YS a pf k) f
 |none=>T f
def qoj{a:Nat->Option Fn}{pf:PF}{T:Nat->Spc}{k:Nat}(c:qlF (qiU a pf T k) pf):qiM (qiU a pf T k) (YS a pf k):=λf args h r j b ρ ds H K d hn q s t=>by
 have u:(∃fn,a f=some fn)\/pf f args=some r/\j=h:=by
  cases k with
  |zero=>cases b
  | succ k=>
    have b:qqQ a pf k (YS a pf k) f args h=some (r,j):=b;unfold qqQ at b;grind
 rcases u with⟨fn,e⟩|⟨e,rfl⟩
 ·unfold qiU;rw[e];exact⟨args,h,r,j,ρ,b,hn,q,s, .inl t⟩
 ·let ⟨x,w,h1,h2⟩:=c f args r e ρ ds q
  rw[w];exact⟨h1,λr' p=>t ρ r' H (List.prefix_refl ρ) hn (h2 r' p) s⟩
theorem triX_ex{P:Program}{x:Nat->Option Fn}{pf:PF}{T:Nat->Spc}(hT:∀f,Tri dq P f (T f).pt)(C:∀k,qlF (qiU x pf T k) pf)(L:∀f fn,x f=some fn->∃im,xD P f im (EL fn.cc) fn.rs fn.N):∀k f,Tri dq P f (qiU x pf T k f).pt:=by
 intro k
 induction k with
 | zero=>
   intro f;unfold qiU;split
   ·rintro O tp w vs ds H d K - - - - - ⟨args,h,r,M,ρ,p,_⟩;cases p
   grind
 | succ k ih=>
   intro f;unfold qiU;split
   ·rename_i fn e
    let ⟨im,vX,enter,fun_,code,h1,h2,h3,h4,h5⟩:=L f fn e
    refine lp ih vX h1 h2 enter h3 h4 h5 ?_;rintro ds H d K ⟨args,h,r,M,ρ,p,hn,ha,hH,E⟩;have p:qqQ x pf k (YS x pf k) f args h=some (r,M):=p;unfold qqQ at p;rw[e]at p;dsimp only at p;split at p
    ·rename_i hN;have hlen:ds.length<=fn.N:=by rw[<-ha.1];exact qCh hN
     refine⟨hlen,ds,λi=>if(h.he.get i).isSome then H i else none,id,⟨rfl,λk d d' h1 h2=>by rw[h1]at h2;cases h2;exact .same _⟩,λi r hi=>?_,λi j r s _ _ h=>h,?_⟩;grind;have U:HRep ρ h.he (λi=>if(h.he.get i).isSome then H i else none):=λi r hi=>by
      let ⟨r',h1,h2⟩:=hH i r hi
      exact⟨r',by dsimp only;rw[hi];simpa using h1,h2⟩
     have W:SRep ρ (sg (num 0 args .e)) (dt ds):=qaV args 0 .e _ (λt=> .any _) λk c hk=>by
      let ⟨d,h1,h2⟩:=ha.get hk
      simp[dt,h1];exact h2
     have main:∀(e:Ex) (s:XS),run (YS x pf k) pf k fn.cc ⟨num 0 args .e,h⟩=some (e,s)->(e= .norm\/e= .ret)->vM fn args s=some (r,M)->
      ∃Q:D->ab->Prop,vc (qiU x pf T k) (EL fn.cc) (tJ fn.rs Q) (dt ds) (λi=>if(h.he.get i).isSome then H i else none)/\∀r H',Q r H'->∃(r':D) (Hf I:ab) (J:Nat->Option Nat),FrzTo Hf r r'/\(∀j q,Hf j=some q->H' j=some q/\∀i,J i≠some j)/\K r' I/\
       (∀i s,I i=some s->match J i with|some j=>H' j=some s|none=>H i=some s/\∀k q,(if(h.he.get k).isSome then H k else none)=some q->id k≠i)/\
       (∀i j k s q,I i=some s->I j=some q->J i=some k->J j=some k->i=j):=by
      intro e s u y b;unfold vM at b;split at b
      rotate_left
      ·cases b
      rename_i ls Y;cases b;refine⟨λr H'=>∃a,ρ <+:a/\a.length=s.h.n/\Rep a (dI ls) r/\HRep a s.h.he H',qns (qoj (C k)) (C k) k fn.cc _ e s u ρ _ _ ⟨hn,W,U⟩ _ λa σ' H' hp A=>?_,?_⟩
      ·have b:=R6 A.2.1 A.2.2 fn.rs ls Y (λds=>∃a,ρ <+:a/\a.length=s.h.n/\Rep a (dI ls) (dI ds)/\HRep a s.h.he H') λds hd=>⟨a,hp,A.1,R7 hd,A.2.2⟩
       rcases y with rfl|rfl
       ·exact b
       ·exact b
      ·rintro r H' ⟨a,hp,Z,A,F⟩;rcases E with E|⟨y,E⟩
       rotate_left
       ·let ⟨q0,hq1,hq2⟩:=E a r H' A (WZ F)
        exact⟨q0,H',H,λ_=>none,hq1,λj q h=>⟨h,λi e=>by cases e⟩,hq2,λi q hi=>⟨hi,λk q h=>(by rw[y]at h;simp[Tr.get_e]at h)⟩,λi j k q q' _ _ h1 h2=>(by cases h1)⟩
       refine⟨r,bV,λi=>if(s.h.he.get i).isSome then H' i else none,λi=>some i, .same _,λj q h=>(by cases h),E a r _ hp (by rw[qoz];exact Z) A (WZ λi q hi=>?_),λi q hi=>?_,λi j k q q' _ _ h1 h2=>by cases h1;cases h2;rfl⟩
       ·let ⟨q',h1,h2⟩:=F i q hi
        exact⟨q',by rw[hi];simpa using h1,h2⟩
       ·dsimp only at hi ⊢;split at hi
        ·exact hi
        ·cases hi
     split at p;grind
     ·rename_i e1 s1 hne u;refine main e1 s1 u ?_ p;cases e1 with
      |norm=>exact .inl rfl
      |ret=>exact .inr rfl
      |ex i=>exact(hne i rfl).elim
     ·cases p
    grind
   grind
mutual
def pl:D->Bool
 | .v _=>true
 | .agg cs=>qiR cs
 | .tup cs=>qiR cs
 | .list _ cs=>qiR cs
 | .cptr cs _=>qiR cs
 | .clo _ cs=>qiR cs
 | .undef=>true
 | _=>false
def qiR:List D->Bool
 | []=>true
 |d::l=>pl d && qiR l
end
mutual
def qj6{ρ:VL} :∀d:D,pl d=true->Rep ρ d d
 | .v x,_=> .v x
 | .undef,_=> .undef
 | .agg cs,h=> .agg _ _ rfl (uI cs (by grind [pl])).2
 | .tup cs,h=> .tup _ _ rfl (uI cs (by grind [pl])).2
 | .list n cs,h=> .list _ _ _ rfl (uI cs (by grind [pl])).2
 | .cptr cs o,h=> .cptr _ _ _ rfl (uI cs (by grind [pl])).2
 | .clo f cs,h=> .clo _ _ _ rfl (uI cs (by grind [pl])).2
 | .any,h| .own _ _,h| .bptr _ _ _,h| .eptr _ _ _ _ _,h| .sub _ _ _ _ _,h| .tape _,h| .mp _,h| .mst _ _,h=>by grind [pl]
def uI{ρ:VL} :∀l:List D,qiR l=true->RepL ρ l l
 | [],_=> .nil
 | d::l,h=>by
   rw[qiR,qCi]at h;exact .cons (qj6 d h.1) (uI l h.2)
end
theorem UE{P:Program}{f:Nat}{cf:CF}(E:Tri dq P f (qkX cf f)){A:Type}{G:dN A}{pre:A->Prop}{Y:Type}{er:Y->D}{post:A->Y->Prop}
 (F:∀x,pre x->qiR (G.view x)=true/\∃r h y,cf f (G.view x) ⟨.e, [], [],0⟩=some (r,h)/\(∀(a:VL) (r':D) (H':ab),Rep a r r'->HRep a h.he H'->FrzTo H' r' (er y))/\post x y):Tri dq P f (aJ G pre er post).pt:=by
 intro O tp w vs ds H d K hO s p hlen j t;rw[su]at t;cases C:G.dec ds with
 |none=>simp_all
 | some x=>
   rw[C]at t
   let ⟨hp,I⟩:=t
   let ⟨h1,r,h,y,h2,h3,h4⟩:=F x hp
   have q:=G.le ds x C;refine E O tp w vs (G.view x) H d K hO s p (by rw[hlen,q.1]) (λk v c h5 h6=>?_) ⟨G.view x,⟨.e, [], [],0⟩,r,h, [],h2,rfl,uI _ h1,λi r h=>(by cases h), .inr ⟨rfl,λa r' H' h5 J=>?_⟩⟩
   ·have u:k<ds.length:=by grind
    have e:=qCe u;exact(q.2 k _ c e h6).R (H:=bV) (λi r h=>by cases h) (λ_ h=>h) (λi r b h=>by cases h) (j k _ _ h5 e)
   grind
def vq:Value->Value->Bool
 | .int k a, .int c b=>decide (k=c) && decide (a=b)
 | .string a, .string b=>decide (a=b)
 | .bool a, .bool b=>decide (a=b)
 | _,_=>false
theorem qqx{a b:Value}(h:vq a b=true):a=b:=by
 unfold vq at h;grind
def qo5(f:D->D->Bool):List D->List D->Bool
 | [], []=>true
 |c::cs,d::ds=>f c d && qo5 f cs ds
 | _,_=>false
def qxo(w:Nat)(d:D):Bool:=d.kn && Nat.beq d.cells.length w
noncomputable def fz:Nat->HE->D->D->Bool
 | 0=>λ_ _ _=>false
 | n+1=>λhe r t=>match t with
   | .any=>true
   | .v x=>(match r with
     | .v y=>vq y x
     | _=>false)
   | .agg a=>(match r with
     | .agg es=>qo5 (fz n he) es a
     | _=>false)
   | .tup a=>(match r with
     | .tup es=>qo5 (fz n he) es a
     | _=>false)
   | .list w a=>a.all (qxo w) && (match r with
     | .v (.slice none 0 0)=>a.isEmpty
     | .list w' es=>Nat.beq w' w && qo5 (fz n he) es a
     | .own id x=>(match he.get id with
       |some (.row b _ w' es)=>Z5 b x && Nat.beq w' w && qo5 (fz n he) es a
       | _=>false)
     | _=>false)
   | _=>false
def N4{f:D->D->Bool}{ρ:VL}{H:ab}(p:∀c d c',f c d=true->Rep ρ c c'->FrzTo H c' d):∀(es j es':List D),qo5 f es j=true->RepL ρ es es'->es'.length=j.length/\∀(k:Nat) (c c':D),es'[k]? =some c->j[k]? =some c'->FrzTo H c c'
 | [], [],es',_,b=>by
   have h:=b.1;grind
 | c::cs,d::ds,es',h,b=>by
   have hl:=b.1;cases es' with
   |nil=>grind
   | cons a l=>
     simp[qo5]at h;have h0:=b.2 0 c a rfl rfl;have q:=N4 p cs ds l h.2 ⟨by grind,λk x y h1 h2=>b.2 (k+1) x y (by grind) (by grind)⟩;grind
 | [],_::_,_,h,_=>by cases h
 | _::_, [],_,h,_=>by cases h
theorem qmg{ρ:VL}{he:HE}{H:ab}(s:HRep ρ he H):∀(n:Nat) (r t r':D),fz n he r t=true->Rep ρ r r'->FrzTo H r' t
 | 0,r,t,r',h,j=>by cases h
 | n+1,r,t,r',h,j=>by
   have q:∀c d c',fz n he c d=true->Rep ρ c c'->FrzTo H c' d:=λc d c'=>qmg s n c d c'
   have p:∀{w:Nat} {a:List D},a.all (qxo w)=true->∀d∈a,d.kn=true/\d.cells.length=w:=λh d A=>by
    simp_all [qxo]
   cases t with
   |any=>exact .any _
   | v x=>
     grind [FrzTo,X.Rep,fz,qqx]
   | agg a=>
     simp[fz]at h;split at h
     ·rename_i es;cases j with
      | agg _ ds hl hh=>
        have:=N4 q es a ds h ⟨hl,hh⟩;exact .agg this.1 this.2
     grind
   | tup a=>
     simp[fz]at h;split at h
     ·rename_i es;cases j with
      | tup _ ds hl hh=>
        have:=N4 q es a ds h ⟨hl,hh⟩;exact .tup this.1 this.2
     grind
   | list w a=>
     simp only[fz,qCi]at h;obtain⟨h0,h⟩:=h;split at h;grind [FrzTo,X.Rep]
     ·rename_i w' es;simp only[qCi]at h;obtain⟨h1,h⟩:=h;have e:=Nat.eq_of_beq_eq_true h1;subst e;cases j with
      | list _ _ ds hl hh=>
        have:=N4 q es a ds h ⟨hl,hh⟩;exact .list this.1 (p h0) this.2
     ·split at h
      ·rename_i C el w' es u;simp only[qCi]at h;obtain⟨⟨h1,h2⟩,h⟩:=h;have e:=Nat.eq_of_beq_eq_true h2;subst e;cases j with
       | own _ m y b hm=>
         obtain⟨k,rfl⟩:=D3 s u
         let ⟨ds,h3,h4⟩:=zd (c:=0) (y:= .bool true) s u h1 hm
         have:=N4 q es a ds h h4;exact .row h3 this.1 (p h0) this.2
      ·cases h
     grind
   | _=>cases h
def UF{P:Program}{f:Nat}{cf:CF}(b:Tri dq P f (qkX cf f)){A:Type}{G:dN A}{pre:A->Prop}{Y:Type}{er:Y->D}{post:A->Y->Prop}
 (a:∀x,pre x->qiR (G.view x)=true/\∃r h y,cf f (G.view x) ⟨.e, [], [],0⟩=some (r,h)/\fz 60 h.he r (er y)=true/\post x y):Tri dq P f (aJ G pre er post).pt:=
 UE b λx c=>(a x c).imp_right λ⟨r,h,y,h1,h2,h3⟩=>⟨r,h,y,h1,λd r' H' a j=>qmg j 60 _ _ _ h2 a,h3⟩
end X
open Go.Proofs X
def qnX:List Nat:=(List.range 200).map (· +100000)
abbrev gx(f:Func)(x:X.Fn)(_:(⟨G.rw_ Tryz.prog f qnX,(f.results.toList.mapM (fy { Tryz.prog with cutTypes:= #[] })).getD [],f.ntmps⟩:X.Fn)=x:=by conv=>lhs;reduce):X.Fn:=x
def qmr(p:Nat×X.Fn):Prop:=∃im,xD Tryz.prog p.1 im (EL p.2.cc) p.2.rs p.2.N
def qBv {f N : Nat} {cc : CC} {rs : List ak} (h : ((Tryz.prog.funcs[f]?).bind fun g => if g.name == "runtime.NumGoroutine" then none else g.body.bind fun c => (ay Tryz.prog qnX g.ntmps c).bind fun cc => (g.results.toList.mapM (fy Tryz.prog)).bind fun rs => some (g.ntmps, cc, rs)) = some (N, bH (EL cc), rs) := by kernel_rfl) : qmr (f, ⟨cc, rs, N⟩) := ⟨qnX, qmh mixed h⟩
def qww:∀p∈ ([]:List (Nat×X.Fn)),qmr p:=λp h=>by cases h
def qqo{p:Nat×X.Fn}{l:List (Nat×X.Fn)}(h:qmr p)(hl:∀p∈l,qmr p):∀q∈p::l,qmr q:=λq hq=>by
 rcases qCm.1 hq with rfl|hq
 ·exact h
 ·exact hl q hq
def qxk:PF:=λ_ _=>none
noncomputable def ΔL(a:List (Nat×X.Fn))(f:Nat):Option X.Fn:=qxT a f
def qmH{a:List (Nat×X.Fn)}(h:∀p∈a,qmr p)(k f:Nat):TQ dq f (qiU (ΔL a) qxk (FG []) k f):=
 X.triX_ex (ag ae) (λk f args r h=>by cases h) (λf fn e=>h _ (qa3 _ _ _ e)) k f
def qqn{a:List (Nat×X.Fn)}(h:∀p∈a,qmr p){f:Nat}{fn:X.Fn}(e:ΔL a f=some fn)(k:Nat):Tri dq Tryz.prog f (qkX (YS (ΔL a) qxk k) f):=by
 have:=qmH (dq:=dq) h k f;unfold qiU at this;rw[e]at this;exact this
end
section
open Go.Proofs
def Fa:X.Fn:=gx Tryz.f23 _
def TY:X.Fn:=gx Tryz.f64 _
def E9:X.Fn:=gx Tryz.f65 _
def E7:X.Fn:=gx Tryz.f66 _
def E6:X.Fn:=gx Tryz.f67 _
def Dy:X.Fn:=gx Tryz.f68 _
def CP:X.Fn:=gx Tryz.f70 _
def Dz:X.Fn:=gx Tryz.f71 _
def Hu:X.Fn:=gx Tryz.f72 _
def E4:X.Fn:=gx Tryz.f74 _
def EZ:X.Fn:=gx Tryz.f128 _
def DF:X.Fn:=gx Tryz.f129 _
def CQ:X.Fn:=gx Tryz.f130 _
def E1:X.Fn:=gx Tryz.f195 _
def AX:X.Fn:=gx Tryz.f196 _
def DE:X.Fn:=gx Tryz.f197 _
def DD:X.Fn:=gx Tryz.f233 _
def AW:X.Fn:=gx Tryz.f234 _
def DB:X.Fn:=gx Tryz.f235 _
def DA:X.Fn:=gx Tryz.f236 _
def DH:X.Fn:=gx Tryz.f238 _
def DG:X.Fn:=gx Tryz.f239 _
def Ht:X.Fn:=gx Tryz.f265 _
def AV:X.Fn:=gx Tryz.f266 _
def E8:X.Fn:=gx Tryz.f281 _
def E5:X.Fn:=gx Tryz.f292 _
def Lt:X.Fn:=gx Tryz.f69 _
def EY:X.Fn:=gx Tryz.f73 _
def Hv:X.Fn:=gx Tryz.f237 _
def JZ:X.Fn:=gx Tryz.f125 _
def Ls:X.Fn:=gx Tryz.f126 _
def Q0:X.Fn:=gx Tryz.f127 _
open Cod (enc dec)
def OR(c:UInt8):Pat:=⟨1,⟨2,E0,E0,⟨#[c]⟩,E0,false, []⟩,E0,E0,0,0, []⟩
abbrev Vf(s:B)(q:Qry):Spc:=aJ (a1 B) (λx=>x=s) (qmj (Y:=Qry) (Z:=Int) (W:=Int)) λ_ y=>y=(q,0,0)
open Go.Proofs X
variable {dq:Prop}
def qyU:List (Nat×X.Fn):=[(we,Fa),(Zt,TY),(IT,E9),(IR,E7),(IQ,E6),(GU,Dy),(EH,CP),(GV,Dz),(KI,Hu),(IN,E4),(IL,EZ),(G0,DF),(EI,CQ),(IM,E1),(C9,AX),(GZ,DE),(GY,DD),(C8,AW),(GX,DB),(GW,DA),(G2,DH),(G1,DG),(KH,Ht),(C7,AV),(IS,E8),(IP,E5),(Pk,Lt),(IK,EY),(KJ,Hv),(Ns,JZ),(Pj,Ls),(WO,Q0)]
def qoA:∀p∈qyU,qmr p:=by
 unfold qyU
 repeat' first|exact qww|refine qqo qBv ?_
noncomputable def qBV(s:B):Option (D×XH):=YS (ΔL qyU) qxk 10000 we [.v (.string s)] ⟨.e, [], [],0⟩
open Cod (enc dec)
noncomputable def qyf(s:B)(q:Qry):Bool:=match qBV s with
 |some (r,h)=>fz 60 h.he r (qmj (Y:=Qry) (Z:=Int) (W:=Int) (q,0,0))
 |none=>false
def qeG{s:B}{q:Qry}(h:qyf s q=true):TQ dq we (Vf s q):=by
 refine UF (qqn qoA (fn:=Fa) rfl 10000) ?_;rintro x rfl;refine⟨rfl,?_⟩;unfold qyf at h;split at h
 ·rename_i r hh he;exact⟨r,hh,(q,0,0),he,h,rfl⟩
 ·cases h
end
section
open Go.Proofs
open Cod (enc dec)
variable {dq:Prop}
section
variable {X Y Z:Type}
variable {P:Program}{S:Nat->Spc}{f:Nat}{im:List Nat}{cc:CC}{rs:List ak}{N:Nat}
end
end
section
open Go.Proofs
open Cod (enc dec)
variable {S S0:Nat->Spc}
end
section
open Go.Proofs
def D0{x:Cond}(h:rR x=false):x.op≠4/\∀k∈x.kids,rR k=false:=by
 grind [K9]
theorem GM{c:Corpus}{t:Int}{lb lb':List B}{bd bd':List Int} :∀(n:Nat) (x:Cond),rR x=false->qH ⟨c,t,lb,bd⟩ n x=qH ⟨c,t,lb',bd'⟩ n x
 | 0,_,_=>rfl
 | n+1,x,h=>by
   obtain⟨h4,hk⟩:=D0 h;have a:∀k∈x.kids,qH ⟨c,t,lb,bd⟩ n k=qH ⟨c,t,lb',bd'⟩ n k:=λk hm=>GM n k (hk k hm)
   rw[qH,qH];dsimp only;rw[if_neg h4,if_neg h4];have a0:(x.kids.all λk=>(qH ⟨c,t,lb,bd⟩ n k).isSome)=x.kids.all λk=>(qH ⟨c,t,lb',bd'⟩ n k).isSome:=by
    grind
   grind
mutual
theorem oO:∀x:Cond,rR x=false->iY x=x
 | .mk op n a v l f ks,h=>by
   have h2:=D0 h;have h4:¬op=4:=h2.1;rw[iY,if_neg (by grind),Qm ks h2.2]
theorem Qm:∀ks:List Cond,(∀k∈ks,rR k=false)->BI ks=ks
 | [],_=>rfl
 |k::ks,h=>by rw[BI,oO k (h k (by simp)),Qm ks λk hk=>h k (by grind)]
end
mutual
def qaU:∀x:Cond,iX (iY x)<=iX x/\dE (iY x)<=dE x
 | .mk op n a v l f ks=>by
   rw[iY];have:=VW ks;grind [iX,gE,dE,li]
def VW:∀ks:List Cond,gE (BI ks)<=gE ks/\li (BI ks)<=li ks
 | []=>by simp[BI]
 | k::ks=>by
   have:=qaU k;have:=VW ks;grind [BI,gE,li]
end
inductive GL:Nat->Cond->Prop
 |atom (n:Nat) (c:Cond) (h:GA [] c):GL n c
 |any (n:Nat):GL n ⟨1,E0,E0,E0,E0,false, []⟩
 |top (n:Nat) (v:B) (f:Bool) (h:v∈ValsT):GL n ⟨2,E0,E0,v,E0,f, []⟩
 |not (n:Nat) (k:Cond) (h:GL n k):GL (n+1) ⟨6,E0,E0,E0,E0,false, [k]⟩
 |two (n:Nat) (op:Int) (a b:Cond) (ho:op=7\/op=8) (h1:GL n a) (h2:GL n b):GL (n+1) ⟨op,E0,E0,E0,E0,false, [a,b]⟩
theorem qgM{lb:List B}{c:Cond}(h:GA lb c)(hs:rR c=false):GA [] c:=by
 cases h with
 |val n v f h1 h2=>grind [GA]
 |feat v h=>exact .feat v h
 |same n l a h1 h2 h3=>exact absurd rfl (D0 hs).1
 |reg n h=>exact .reg n h
 |regk n v h1 h2=>grind [GA]
def Lm{lb:List B} :∀{n:Nat} {x:Cond},GI lb n x->rR x=false->GL n x
 | _,_, .atom n c h,hs=> .atom n c (qgM h hs)
 | _,_, .not n k h,hs=> .not n k (Lm h ((D0 hs).2 k (by simp)))
 | _,_, .two n op a b ho h1 h2,hs=> .two n op a b ho (Lm h1 ((D0 hs).2 a (by simp))) (Lm h2 ((D0 hs).2 b (by simp)))
def Lj{x:Cond}(h:x.op=4\/x.op=6/\rR x=true):iY x=⟨1,E0,E0,E0,E0,false, []⟩:=by rw[Lk,if_pos h];rfl
def qa0{op:Int}{a b:Cond}(ho:op=7\/op=8):iY ⟨op,E0,E0,E0,E0,false, [a,b]⟩=⟨op,E0,E0,E0,E0,false, [iY a,iY b]⟩:=by
 rw[Lk,if_neg (by
  grind)]
 rfl
def WF{lb:List B} :∀{n:Nat} {x:Cond},GI lb n x->GL n (iY x)
 | _,_, .atom n c h=>by
   cases hs:rR c with
   |false=>grind [GL,oO,qgM]
   | true=>
     have h4:c.op=4:=by
      grind [K9,wa]
     rw[Lj (.inl h4)];exact .any n
 | _,_, .not n k h=>by
   cases hs:rR ⟨6,E0,E0,E0,E0,false, [k]⟩with
   |false=>rw[oO _ hs];exact .not n k (Lm h ((D0 hs).2 k (by simp)))
   |true=>rw[Lj (.inr ⟨rfl,hs⟩)];exact .any _
 | _,_, .two n op a b ho h1 h2=>by
   rw[qa0 ho];exact .two n op _ _ ho (WF h1) (WF h2)
def qrP{lb:List B}{n:Nat}{x:Cond}(h:GC lb n x):GL n (iY x):=by
 cases h with
 |any=>rw[oO _ rfl];exact .any n
 |top v f h=>rw[oO _ rfl];grind [GL]
 |inner c h=>exact WF h
def Qt{E:Py}(j:Hq E)(d:E.lb=[]):∀{n m:Nat} {x:Cond},GL n x->n<m->∃y,qH E m x=some y
 | _,m+1,_, .atom n c h,_=>qmf j (d ▸h)
 | _,m+1,_, .any n,_=>qgx j (n:=0) .any (by omega)
 | _,m+1,_, .top n v f h,_=>qgx j (n:=0) (.top v f h) (by omega)
 | _,m+1,_, .not n k h,hm=>by
   obtain⟨y,l⟩:=Qt (m:=m) j d h (by omega);simp_all [qgw]
 | _,m+1,_, .two n op a b ho h1 h2,hm=>by
   obtain⟨p,hp⟩:=Qt (m:=m) j d h1 (by omega);obtain⟨q,r⟩:=Qt (m:=m) j d h2 (by omega);rcases ho with rfl|rfl;simp_all [SO];simp_all [qbb]
def Gx:∀{n m:Nat} {x:Cond},GL n x->n<m->rW iS [] m x=true
 | _,m+1,_, .atom n c h,_=>Et (qaS h) (wa h)
 | _,m+1,_, .any n,_=>M0 (n:=0) .any (by omega)
 | _,m+1,_, .top n v f h,_=>M0 (n:=0) (.top v f h) (by omega)
 | _,m+1,_, .not n k h,hm=>Qc (Gx h (by omega))
 | _,m+1,_, .two n op a b ho h1 h2,hm=>Qb ho (Gx h1 (by omega)) (Gx h2 (by omega))
theorem Zd{c:Corpus}{t:Int}{lb:List B}{bd:List Int}(d:Hq ⟨c,t,lb,bd⟩):∀{n m:Nat} {x:Cond},GI lb n x->n<m->qH ⟨c,t,lb,bd⟩ m x=some true->qH ⟨c,t, [], []⟩ m (iY x)=some true
 | _,m+1,_, .atom n x h,_,r=>by
   cases hs:rR x with
   |false=>grind [oO,GM]
   | true=>
     have h4:x.op=4:=by
      grind [K9,wa]
     rw[Lj (.inl h4)];rfl
 | _,m+1,_, .not n k h,_,r=>by
   cases hs:rR ⟨6,E0,E0,E0,E0,false, [k]⟩with
   |false=>grind [oO,GM]
   | true=>
     rw[Lj (.inr ⟨rfl,hs⟩)];rfl
 | _,m+1,_, .two n op a b ho h1 h2,hm,r=>by
   have s:Hq ⟨c,t, [], []⟩:=⟨d.c,d.t0,d.t1,rfl⟩
   obtain⟨p,hp⟩:=Qu (m:=m) d h1 (by omega);obtain⟨q,u⟩:=Qu (m:=m) d h2 (by omega);obtain⟨w,j⟩:=Qt (m:=m) s rfl (WF h1) (by omega);obtain⟨y,l⟩:=Qt (m:=m) s rfl (WF h2) (by omega);have A:p=true->w=true:=λe=>by
    subst e;exact qCr (j.symm.trans (Zd d h1 (by omega) hp))
   have C:q=true->y=true:=λe=>by
    subst e;exact qCr (l.symm.trans (Zd d h2 (by omega) u))
   rw[qa0 ho];rcases ho with rfl|rfl
   ·rw[SO hp u]at r;rw[SO j l];grind
   ·rw[qbb hp u]at r;rw[qbb j l];have h3:=qCr r;grind
def qkM{c:Corpus}{t:Int}{lb:List B}{bd:List Int}(a:Hq ⟨c,t,lb,bd⟩){n m:Nat}{x:Cond}(h:GC lb n x)(hm:n<m)(b:qH ⟨c,t,lb,bd⟩ m x=some true):qH ⟨c,t, [], []⟩ m (iY x)=some true:=by
 cases h with
 |any=>rw[oO _ rfl,GM (lb':=lb) (bd':=bd) _ _ rfl];omega
 |top v f h=>rw[oO _ rfl,GM (lb':=lb) (bd':=bd) _ _ rfl];omega
 |inner x h=>grind [Zd]
open Cod (enc dec)
variable {S S0:Nat->Spc}
def qeU{c:Corpus}(hc:OkCorp c){lb:List B}{n:Nat}{x:Cond}(d:GC lb n x)(hn:n<=3):qb0 (c,x):=by
 have a:=qrP d;have h:=qgL d;have j:=qaU x;have h3:2^ (n+1)<=2^4:=Nat.pow_le_pow_right (by decide) (by omega);have b:∀i:Nat,i<c.toks.length->Hq ⟨c,(i:Int), [], []⟩:=λi hi=>⟨hc,by show(0:Int)<=(i:Int);omega,by show(i:Int)<c.toks.length;omega,rfl⟩
 exact⟨hc.sz,by show iX x<=60;omega,by show dE x<=60;omega,by
  show qka c.attrs [] (iY x)=true;rw[show c.attrs=iS from hc.1];exact qfS (by omega) (by omega) (Gx a (by omega)),λi hi=>Qt (b i hi) rfl a (by omega)⟩
def ZH{n:Nat}{c:Corpus}{q:Qry}(hc:qb3 c)(b:GQ n q)(hn:n<=5):qtd TM c q/\vQ q.pat<=1000:=by
 have a:=Wf hc b hn;obtain⟨lb,hl,h⟩:=b.lab;have h1:=qmI n q.pat h;have h2:2^n<=32:=by
  rcases n with _|_|_|_|_|_|n
  all_goals first|decide|omega
 refine⟨⟨a.v,a.v.pat,a.v.size,⟨a.v.num,by omega⟩,⟨?_,λx d=>(a.v.lv x d).2⟩,by have:=hc.few;omega,λx d=>qeU hc.ok (b.cond x d) (by decide)⟩,by omega⟩;have:=uM q.pat;have:=a.v.num;simp;omega
end
section
open Go.Proofs
open Cod (enc dec)
variable {dq:Prop}
end
section
open Go.Proofs
open Cod (enc dec)
variable {S S0:Nat->Spc}
def V12(a:List Attr)(q:Qry):Prop:=TM a q\/qB6 a q
def qaP{f:Pat->Bool}(p:Pat)(h:qb (λq=>f q=true) p):cm f p=true:=by
 induction p using eb with|_ p a=>?_
 rw[cP,nA h,qDE,qCl];exactλk hk=>a k hk (uJ h hk)
end
section
open Go.Proofs
def qBu(r:Rn)(y:Pat)(s t:St3)(i:Int):Prop:=∃a:St3,a.p=i/\s.p<=i/\i<t.p/\i<r.en/\HT r y a=some true
def SD(r:Rn)(p:Pat):Prop:=∀s t,nM r p s t->t.p -s.p<=10000->∀(d leaf:Int) (x:Span),SrcE p d leaf x->∃y,(am p)[(x.b -leaf).toNat]? =some y/\leaf<=x.b/\qBu r y s t (s.p+ (x.e -d))
def qhn{r:Rn}{p:Pat}{s t:St3}(h:nM r p s t):s.p<=t.p:=by
 rcases BL r p s t h with rfl|h
 ·exact qDe _
 ·omega
def qk9{r:Rn}{ks:List Pat}{s t:St3}(h:xE r ks s t):s.p<=t.p:=by
 rcases CA r ks s t h with rfl|h
 ·exact qDe _
 ·omega
theorem UZ{r:Rn} :∀(ks:List Pat),(∀k∈ks,SD r k/\WD r k/\gG (bG k))->∀s t,xE r ks s t->t.p -s.p<=10000->∀(d leaf:Int) (x:Span),xy ks d leaf x->∃y,(ks.flatMap am)[(x.b -leaf).toNat]? =some y/\leaf<=x.b/\qBu r y s t (s.p+ (x.e -d))
 | [],_,s,t,_,_,d,leaf,x,h=>by rw[xy]at h;exact h.elim
 | k::ks,hk,s,t,l,hl,d,leaf,x,h=>by
   rw[nH]at l;obtain⟨u,a,b⟩:=l;have la:=qhn a;have lb:=qk9 b;obtain⟨q,A,C⟩:=hk k (by simp);rw[xy]at h;rw[qC9];rcases h with h|⟨E,h⟩
   ·obtain⟨y,c,h0,j,e,h1,h2,h3,h4⟩:=q s u a (by omega) d leaf x h;refine⟨y,?_,h0,j,e,h1,by omega,h3,h4⟩;rw[qCK (qCd.1 c).1];exact c
   ·have w:=A s u a;unfold WB at w;unfold gG at C;have F:u.p=s.p+ (bG k).1:=by omega
    obtain⟨y,c,h0,j,e,h1,h2,h3,h4⟩:=UZ ks (λz hz=>hk z (by simp[hz])) u t b (by omega) _ _ x h;have he:u.p+ (x.e - (d+ (bG k).1))=s.p+ (x.e -d):=by omega
    rw[he]at e h1 h2 h3;refine⟨y,?_,by omega,j,e,by omega,h2,h3,h4⟩;rw[qCG (by omega)];rw[show(x.b -leaf).toNat - (am k).length=(x.b - (leaf+ ((am k).length:Int))).toNat by omega];exact c
theorem qjE{r:Rn}{v:B->Bool}(p:Pat):fJ v p=true->SD r p:=by
 induction p using eb with|_ p A=>?_
 intro hp s t j hl d leaf x h;rw[aQ];rcases qF (eJ hp).1 with⟨ho,_⟩|⟨ho,_⟩|⟨ho,k,ks,hk⟩|⟨ho,k,hk⟩
 ·rw[qnj ho]at h;subst h;obtain⟨h1,h2,h3⟩:=(qbu ho s t).1 j;have N:t.p=s.p+1:=by
   have w:=Tq p hp s t j;rw[Z0 ho]at w;unfold WB at w;simp only at w;omega
  rw[if_pos ho];exact⟨p,by simp,qDe _,s,by simp,by simp,by simp only;omega,by simp only;omega,h2⟩
 ·exact absurd h (qeP (by omega) _ _ _)
 ·by_cases h4:p.op=4
  ·rw[qni h4]at h;rw[if_neg (by omega)];exact UZ p.kids (λz hz=>⟨A z hz (eW hp hz),Tq z (eW hp hz),vS z (eW hp hz)⟩) s t ((qho h4 s t).1 j) hl d leaf x h
  ·exact absurd h (qeP (by omega) _ _ _)
 ·rw[qjH ho hk]at h;obtain⟨i,h0,h1,h2,h3⟩:=h;rw[if_neg (by omega),hk];have l:k∈p.kids:=by rw[hk];simp
  have c:=eW hp l;have wd:WD r k:=Tq k c;rw[qbt ho hk]at j;obtain⟨u,a,n,_,b⟩:=j;have O:u.p<=t.p:=by
   have:=Hy (λs t q=>wd s t q.1) n u t b;omega
  have hm:p.mn.toNat=i.toNat+ (1+ (p.mn.toNat -i.toNat -1)):=by omega
  rw[hm]at a;obtain⟨v,a1,a2⟩:=Ia a;obtain⟨w,a2,a3⟩:=Ia a2;obtain⟨w',a2,e⟩:=a2;have e:w'=w:=e;subst e;have C:=Hy wd _ s v a1;have Q:=Hy wd _ w' u a3;have S:=qhn a2;have ok:=vS k c;unfold gG at ok;rw[Int.toNat_of_nonneg h0]at C;have U:v.p=s.p+i* (bG k).1:=by
   rcases h2 with rfl|h2
   ·have a1:s=v:=a1;subst a1;simp
   ·rw[<-h2]at C;rw[Int.mul_comm i];omega
  obtain⟨y,E,I,J,e,K,L,F,M⟩:=A k l c v w' a2 (by omega) _ _ x h3;have he:v.p+ (x.e - (d+i* (bG k).1))=s.p+ (x.e -d):=by omega
  rw[he]at e K L F;refine⟨y,?_,I,J,e,by omega,by omega,F,M⟩;rw[qC9];rw[qCK (qCd.1 E).1];exact E
def qgc{c:Corpus}{x:Cond}{i:Int}{n:Nat}(h:∃k:Nat,k<n/\i=k/\qH ⟨c,k, [], []⟩ 21 (iY x)=some true):i∈RN c x n:=by
 obtain⟨k,hk,rfl,a⟩:=h;exact qCo.2 ⟨k,qDI.2 ⟨qDA.2 hk,by rw[a];rfl⟩,rfl⟩
theorem qge{n:Nat}{c:Corpus}{q:Qry}(hc:qb3 c)(l:GQ n q)(hn:n<=5){m:bY}(h:qiH c (be q.pat []) q.pat m){x:Span}(w:SrcE q.pat 0 0 x):
 ∃t y,Yt c m.b=some t/\(am q.pat)[x.b.toNat]? =some y/\0<=x.b/\0<=x.e/\m.b+x.e<t.e/\m.b+x.e<c.toks.length/\m.b+x.e∈U9 c y.cond:=by
 obtain⟨lb,hl,K⟩:=l.lab;have d:fJ aK q.pat=true:=ZZ hl qep n q.pat K (by omega);obtain⟨k,L⟩:=qbc l;obtain⟨h0,h1,t,A,s,hs,h2,_,_⟩:=h;have a:(H8 c (be q.pat []) t).en=min t.e c.toks.length:=rfl;have M:=List.find?_some A;simp only[qCi,decide_eq_true_eq]at M;have r:X3 (H8 c (be q.pat []) t).en (qcu m.b):=⟨h0,by show m.b<=_;rw[a];omega,λi=>by
  have:0<=(H8 c (be q.pat []) t).en:=by rw[a];omega
  rcases i with _|_|i<;>exact⟨qDe 0,this⟩⟩
 have hk:=(zz _ _ _ _ hs r).2.1;rw[a]at hk;have C:=hc.few;have E:(qcu m.b).p=m.b:=rfl;have N:=qab q.pat d 0 0 x w;obtain⟨y,F,hb,j,es,O,I,u,Q⟩:=qjE q.pat d _ _ hs (by rw[E];omega) 0 0 x w;rw[E]at es O I u;rw[a]at u;rw[show m.b+ (x.e -0)=m.b+x.e by omega]at es I u;refine⟨t,y,A,by simpa using F,hb,N.2.2.1,by omega,by omega,?_⟩;have J:=l.cond y (qCg F);rw[<-k]at J;have S:Hq ⟨c,j.p,be q.pat [],TF (H8 c (be q.pat []) t) j⟩:=⟨hc.ok,by show 0<=j.p;omega,by show j.p<c.toks.length;omega,qbO _ j⟩
 have U:=qkM S J (by decide) Q;refine qgc ⟨j.p.toNat,by omega,by omega,?_⟩;rw[Int.toNat_of_nonneg (by omega)];exact U
def ic:CC:=gq Tryz.f3 [] {} _
def gQ:List ak:=[.tmp 4]
def yj:FO pk [] ic gQ 121:=fo
def vE:CC:=gq Tryz.f8 [] {} _
def uF:List ak:=[.tmp 0]
def MW:FO wY [] vE uF 23:=fo
end
end Go.Gv
