/- T52 -/
import Derived.Test.YtfpmgnnippjblaaGreatDoorGc13
set_option linter.all false
set_option maxRecDepth 100000
set_option maxHeartbeats 0
namespace Go.Gv
section
variable {dq:Prop}
namespace X
noncomputable def lm(f:D->D)(l:List D):List D:=List.rec (motive:=λ_=>List D) [] (λd _ a=>f d::a) l
theorem xX(f:D->D):∀l,lm f l=l.map f
 | []=>rfl
 | d::l=>by
   show f d::lm f l=_;rw[xX f l];rfl
noncomputable def la(p:D->Bool)(l:List D):Bool:=List.rec (motive:=λ_=>Bool) false (λd _ a=>Bool.rec a true (p d)) l
def qhB(f:Nat->Nat):D->D
 | .own i x=> .own (f i) x
 | .bptr i b o=> .bptr (f i) b o
 |d=>d
noncomputable def qjk(f:Nat->Nat):D->D
 | .agg cs=> .agg (lm (qhB f) cs)
 |d=>qhB f d
noncomputable def rn(f:Nat->Nat):D->D
 | .tup ds=> .tup (lm (qjk f) ds)
 | .clo g cs=> .clo g (lm (qhB f) cs)
 |d=>qjk f d
section
variable {Hf:ab}{f:Nat->Nat}{ρ:VL}
theorem qat{g:D->D}(h:∀d,FrzTo Hf d (g d))(l:List D)(k:Nat)(c c':D)(h1:l[k]? =some c)(h2:(lm g l)[k]? =some c'):FrzTo Hf c c':=by
 grind [xX]
theorem WA(d:D):FrzTo Hf d (qhB f d):=by
 cases d<;>first|exact .own _ _ _|exact .bptr _ _ _ _|exact .same _
def qc8(d:D):FrzTo Hf d (qjk f d):=by
 cases d
 case agg cs=>exact .agg (by grind [xX]) (qat WA cs)
 all_goals exact WA (f:=f) _
def qvF(d:D):FrzTo Hf d (rn f d):=by
 cases d
 case tup cs=>exact .tup (by grind [xX]) (qat qc8 cs)
 case clo g cs=>exact .clo (by grind [xX]) (qat WA cs)
 all_goals exact qc8 (f:=f) _
def O1{g:D->D}(h:∀c d,Rep ρ c d->Rep ρ (g c) (g d)){cs ds:List D}(hl:RepL ρ cs ds):RepL ρ (lm g cs) (lm g ds):=by
 grind [X.RepL,xX]
def qev(c d:D)(h:Rep ρ c d):Rep ρ (qhB f c) (qhB f d):=by
 cases h with
 |any d=>exact .any _
 |undef=>exact .undef
 |v x=>exact .v x
 |agg cs ds hl h=>exact .agg cs ds hl h
 |tup cs ds hl h=>exact .tup cs ds hl h
 |clo g cs ds hl h=>exact .clo g cs ds hl h
 |list n cs ds hl h=>exact .list n cs ds hl h
 |cptr cs ds off hl h=>exact .cptr cs ds off hl h
 |own id n x b h=>exact .own _ n x b h
 |bptr id n off x b h=>exact .bptr _ n off x b h
 |eptr id n w i off x b h=>exact .eptr id n w i off x b h
 |sub id n w lo hi x b h=>exact .sub id n w lo hi x b h
def ND(c d:D)(h:Rep ρ c d):Rep ρ (qjk f c) (qjk f d):=by
 cases h with
 |any d=>exact .any _
 |agg cs ds hl h=>have q:=O1 (qev (f:=f)) (⟨hl,h⟩:RepL ρ cs ds);exact .agg _ _ q.1 q.2
 |clo g cs ds hl h=>exact .clo g cs ds hl h
 |undef=>exact .undef
 |v x=>exact .v x
 |tup cs ds hl h=>exact .tup cs ds hl h
 |list n cs ds hl h=>exact .list n cs ds hl h
 |cptr cs ds off hl h=>exact .cptr cs ds off hl h
 |own id n x b h=>exact .own _ n x b h
 |bptr id n off x b h=>exact .bptr _ n off x b h
 |eptr id n w i off x b h=>exact .eptr id n w i off x b h
 |sub id n w lo hi x b h=>exact .sub id n w lo hi x b h
theorem qqS(c d:D)(h:Rep ρ c d):Rep ρ (rn f c) (rn f d):=by
 cases h with
 |any d=>exact .any _
 |tup cs ds hl h=>have q:=O1 (ND (f:=f)) (⟨hl,h⟩:RepL ρ cs ds);exact .tup _ _ q.1 q.2
 |agg cs ds hl h=>exact ND _ _ (.agg cs ds hl h)
 |clo g cs ds hl h=>have q:=O1 (qev (f:=f)) (⟨hl,h⟩:RepL ρ cs ds);exact .clo g _ _ q.1 q.2
 |undef=>exact .undef
 |v x=>exact .v x
 |list n cs ds hl h=>exact .list n cs ds hl h
 |cptr cs ds off hl h=>exact .cptr cs ds off hl h
 |own id n x b h=>exact .own _ n x b h
 |bptr id n off x b h=>exact .bptr _ n off x b h
 |eptr id n w i off x b h=>exact .eptr id n w i off x b h
 |sub id n w lo hi x b h=>exact .sub id n w lo hi x b h
noncomputable def qxP(f:Nat->Nat):Res->Res
 | .box b cs=> .box b (lm (qjk f) cs)
 | .row x el n es=> .row x el n (lm (qjk f) es)
 |r=>r
def qyQ(i:Nat):D->Bool
 | .own j _=>Nat.beq j i
 | .bptr j _ _=>Nat.beq j i
 | _=>false
noncomputable def qvy(i:Nat):D->Bool
 | .agg cs=>la (qyQ i) cs
 |d=>qyQ i d
noncomputable def qvx(i:Nat):Res->Bool
 | .box _ cs=>la (qvy i) cs
 | .row _ _ _ es=>la (qvy i) es
 | _=>false
def qpF:Res->Bool
 | .row _ _ n es=>F2 n es
 | _=>true
noncomputable def gR(i:Nat)(f:Nat->Nat)(r:Res):Option Res:=Bool.rec (some r) (Bool.rec none (some (qxP f r)) (qpF r)) (qvx i r)
def qnr{r s:Res}(h:RepR ρ r s):RepR ρ (qxP f r) (qxP f s):=by
 cases h with
 |box n cs ds x b h hc=>exact .box _ _ _ _ _ h (O1 ND hc)
 |row n el w cs ds x b h hc=>exact .row _ _ _ _ _ _ _ h (O1 ND hc)
 |iter n s p x b h=>exact .iter _ _ _ _ _ h
theorem SU{c:D}(hk:c.kn=true):(qjk f c).kn=true/\(qjk f c).cells=lm (qhB f) c.cells:=by
 cases c<;>first
  |(simp[D.kn]at hk;done)
  |exact⟨rfl,rfl⟩
  |(refine⟨rfl,?_⟩;simp[qjk,qhB,D.cells,lm])
def qns{x:Value}{el n:Nat}{cs ds:List D}(h:RepL ρ cs ds)(hp:F2 n cs=true):RFz Hf (.row x el n ds) (.row x el n (lm (qjk f) ds)):=by
 have a:=D5 h hp;have key:∀l:List D,km n l->∀d∈l,d.kn=true/\d.cells.length=n:=by
  intro l
  induction l<;>simp_all
 refine⟨rfl,rfl,rfl,by grind [xX],λd b=>?_,λm c c' h1 h2 j e k h3 h4=>?_⟩;grind [xX,SU]
 ·rw[xX,qGn,h1]at h2;cases h2;rw[(SU (key ds a c (qF7 h1)).1).2]at h4;grind [qat,WA]
end
noncomputable def Tr.mapO{α:Type}(f:α->Option α)(t:Tr α):Tr α:=Tr.rec (motive:=λ_=>Tr α) .e (λv _ _ l r=> .n (Option.rec none f v) l r) t
def Tr.get_mapO{α:Type}(f:α->Option α):∀(t:Tr α) (k:Nat),Tr.get (Tr.mapO f t) k=(Tr.get t k).bind f
 | .e,k=>rfl
 | .n v l r,k=>by
   show Tr.get (.n (Option.rec none f v) (Tr.mapO f l) (Tr.mapO f r)) k=_;rw[Tr.get_n,Tr.get_n];split
   ·cases v<;>rfl
   ·split
    ·exact Tr.get_mapO f l _
    ·exact Tr.get_mapO f r _
def qFp:Res->Option Nat
 | .box n _=>some n
 | .iter n _ _=>some n
 | .row (.int _ n) _ _ _=>some n.toNat
 | _=>none
def f1(i j x:Nat):Nat:=match Nat.beq x i with
 |true=>j
 |false=>x
noncomputable def ZC(i j:Nat)(sm nw:List Nat)(s:XS):Option XS:=match s.h.he.get i with
 |none=>none
 | some r=>match s.h.he.get j,gR i (f1 i j) r with
   |none,some r'=>if Nat.beq i j then some s else some ⟨s.l.map (rn (f1 i j)),⟨((Tr.mapO (gR i (f1 i j)) s.h.he).del i).set j r',sm,nw,s.h.n⟩⟩
   | _,_=>none
noncomputable def qnw(i:Nat)(s:XS):Option XS:=match s.h.he.get i with
 |none=>some s
 | some r=>match qFp r with
   |none=>none
   |some m=>if Nat.ble 1000 i then some s else ZC i (1000+m) s.h.sm ((1000+m)::s.h.nw) s
def qBx:CI->List Nat
 | .op _ _ (.store (some r) _ _ _)=>[r]
 | .op _ _ (.append (some r) _ _ _ _ _)=>[r]
 | _=>[]
def qum(l:List CI):List Nat:=l.flatMap qBx
def qAW:CC->List Nat
 | .regd p _=>qum p
 | .seq (.regd p _) _=>qum p
 | _=>[]
noncomputable def ZB(l:List Nat):XS->Option XS:=List.rec (motive:=λ_=>XS->Option XS) (λs=>some s) (λr _ a s=>match sg s.l r with
 | .bptr i _ _=>match Nat.beq i r with
   |true=>a s
   | false=>match ZC i r (r::s.h.sm) s.h.nw s with
     |some b=>a b
     |none=>none
 | .own i _=>match Nat.beq i r with
   |true=>a s
   | false=>match ZC i r (r::s.h.sm) s.h.nw s with
     |some b=>a b
     |none=>none
 | _=>none) l
noncomputable def qqU(l:List Nat):XS->Option XS:=List.rec (motive:=λ_=>XS->Option XS) (λs=>some ⟨s.l,⟨s.h.he, [],s.h.nw,s.h.n⟩⟩) (λi _ a s=>match qnw i s with
 |some b=>a b
 |none=>none) l
noncomputable def qnu(s:XS):Option XS:=match s.h.sm with
 | []=>some s
 |i::l=>qqU (i::l) s
def XRep(ρ:VL)(s:XS)(a:Sg)(H:ab):Prop:=ρ.length=s.h.n/\SRep ρ (sg s.l) a/\HRep ρ s.h.he H
def qrG{ρ:VL}{i j:Nat}{r r' s:Res}(a:gR i (f1 i j) r=some r')(h:RepR ρ r s):∃c,RepR ρ r' c/\RFe (λ_=>none) s c:=by
 unfold gR at a;cases hh:qvx i r with
 |false=>rw[hh]at a;cases a;exact⟨s,h, .inl rfl⟩
 | true=>
   rw[hh]at a;cases ho:qpF r with
   |false=>simp_all
   | true=>
     rw[ho]at a;cases a;refine⟨qxP (f1 i j) s,qnr h, .inr ?_⟩;cases h with
     |box n cs ds x b hn hc=>exact⟨rfl,by grind [xX],qat qc8 _⟩
     |row n el w cs ds x b hn hc=>exact qns hc ho
     |iter n s p x b hn=>rfl
theorem qez{ρ:VL}{i j:Nat}{sm nw:List Nat}{s K:XS}(h:ZC i j sm nw s=some K){u:Sg}{H:ab}(L:XRep ρ s u H):∃b H',Wk u H b H'/\XRep ρ K b H':=by
 have same:∃b H',Wk u H b H'/\XRep ρ s b H':=⟨u,H,λE a w h=>h,L⟩
 unfold ZC at h;split at h;grind
 ·rename_i r hi;split at h
  ·rename_i r' Y Z;split at h;grind
   ·rename_i hs;cases h;have M:i≠j:=λe=>hs (by grind)
    obtain⟨hn,C,N⟩:=L;have hex:∀x,∃o:Option Res,(∀p A,s.h.he.get x=some p->gR i (f1 i j) p=some A->∃k,o=some k/\RepR ρ A k)/\(∀k,o=some k->∃F,H x=some F/\RFe (λ_=>none) F k):=λx=>by
     cases c:s.h.he.get x with
     |none=>exact⟨none,λp A h=>(by cases h),λk h=>(by cases h)⟩
     | some p=>
       cases I:gR i (f1 i j) p with
       |none=>exact⟨none,λJ A h h2=>(by grind),λk h=>(by cases h)⟩
       | some A=>
         obtain⟨F,k1,O⟩:=N x p c;obtain⟨k,k3,k4⟩:=qrG I O;refine⟨some k,λJ Q h h2=>?_,λS h=>?_⟩;grind;grind
    obtain⟨G,hG⟩:=qHP hex;refine⟨λt=>rn (f1 i j) (u t),λx=>if x=j then G i else if x=i then none else G x,?_,hn,λt=>?_,λx r c=>?_⟩
    ·refine qbG (Hf:=λ_=>none) (λx=>if x=j then i else x) (λt=>qvF _) (λx r c=>?_) (λx y r q c hy e=>?_) (λi r h=>by cases h);grind;grind
    ·show Rep ρ (sg (s.l.map (rn (f1 i j))) t) _;have U:=C t;unfold sg at U ⊢;rw[Tr.get_map];cases c:s.l.get t with
     |none=>exact .any _
     |some d=>grind [qqS]
    ·rcases Tr.get_set c with⟨rfl,rfl⟩|⟨e,c⟩
     grind
     ·obtain⟨e2,c⟩:=Tr.get_del c;rw[Tr.get_mapO]at c;cases W:s.h.he.get x<;>grind
  grind
def qnv{ρ:VL}{i:Nat}{s b:XS}(h:qnw i s=some b){c:Sg}{H:ab}(d:XRep ρ s c H):∃a H',Wk c H a H'/\XRep ρ b a H':=by
 grind [Wk,XRep,qnw,qez]
theorem Vr{ρ:VL} :∀(l:List Nat) {s b:XS},ZB l s=some b->∀{d:Sg} {H:ab},XRep ρ s d H->∃c H',Wk d H c H'/\XRep ρ b c H'
 | [],s,b,h,d,H,j=>by
   cases h;exact⟨d,H,λE a w h=>h,j⟩
 | r::l,s,b,h,d,H,j=>by
   have go:∀i,(match Nat.beq i r with
    |true=>ZB l s
    | false=>match ZC i r (r::s.h.sm) s.h.nw s with
      |some b=>ZB l b
      |none=>none)=some b->∃c H',Wk d H c H'/\XRep ρ b c H':=λi h=>by
    split at h
    ·exact Vr l h j
    ·split at h
     ·rename_i A h1;obtain⟨p,C,q,t⟩:=qez h1 j;obtain⟨k,u,x,y⟩:=Vr l h t;exact⟨k,u,λE a w h=>x E a w (q E a w h),y⟩
     grind
   have h:(match sg s.l r with
    | .bptr i _ _=>match Nat.beq i r with
      |true=>ZB l s
      | false=>match ZC i r (r::s.h.sm) s.h.nw s with
        |some b=>ZB l b
        |none=>none
    | .own i _=>match Nat.beq i r with
      |true=>ZB l s
      | false=>match ZC i r (r::s.h.sm) s.h.nw s with
        |some b=>ZB l b
        |none=>none
    | _=>none)=some b:=h
   split at h
   ·exact go _ h
   ·exact go _ h
   grind
theorem qey{ρ:VL} :∀(l:List Nat) {s b:XS},qqU l s=some b->∀{c:Sg} {H:ab},XRep ρ s c H->∃d H',Wk c H d H'/\XRep ρ b d H'
 | [],s,b,h,c,H,j=>by
   cases h;exact⟨c,H,λE a w h=>h,j⟩
 | i::l,s,b,h,c,H,j=>by
   have h:(match qnw i s with
    |some b=>qqU l b
    |none=>none)=some b:=h
   split at h
   ·rename_i y h1;obtain⟨p,A,q,r⟩:=qnv h1 j;obtain⟨k,t,u,x⟩:=qey l h r;exact⟨k,t,λE a w h=>u E a w (q E a w h),x⟩
   grind
def qex{ρ:VL}{s d:XS}(h:qnu s=some d){c:Sg}{H:ab}(j:XRep ρ s c H):∃b H',Wk c H b H'/\XRep ρ d b H':=by
 unfold qnu at h;split at h
 ·cases h;exact⟨c,H,λE a w h=>h,j⟩
 grind [qey]
end X
namespace X
def qmh(S:Nat->Spc)(cf:CF):Prop:=∀f args h r b,cf f args h=some (r,b)->∀(ρ:VL) (ds:List D) (H:ab) (K:D->ab->Prop) (d:Nat),ρ.length=h.n->RepL ρ args ds->HRep ρ h.he H->
 (∀(a:VL) (r':D) (H':ab),ρ <+:a->a.length=b.n->Rep a r r'->HRep a b.he H'->K r' H')->(S f).pt d ds H K
def qpb(S:Nat->Spc)(pf:PF):Prop:=∀f args r,pf f args=some r->∀(ρ:VL) (ds:List D),RepL ρ args ds->∃a,S f= .pure a/\a.pre ds/\∀r',a.post ds r'->Rep ρ r r'
section
variable {ρ:VL}{l:SL}{σ:Sg}{H:ab}{S:Nat->Spc}{cf:CF}{pf:PF}
theorem SRep.up{a:VL}(hp:ρ <+:a)(h:SRep ρ (sg l) σ){dst:Option Nat}{d j:D}(k:Rep a d j):SRep a (sg (uO l dst d)) (fK σ dst j):=λt=>by
 cases dst with
 |none=>exact(h t).mono hp
 | some s=>
   have b:=h t;simp[upd];unfold sg at b ⊢;split
   ·rename_i p c;rcases Tr.get_set c with⟨rfl,rfl⟩|⟨e,c⟩
    grind
    ·rw[if_neg e];rw[c]at b;exact b.mono hp
   ·exact .any _
theorem qe0{g:Option (Nat×Bool)}{b:Bool}(h:qyV g l=some b)(c:SRep ρ (sg l) σ){d no:Sg->Prop}(j:b=true->∀a,SRep ρ (sg l) a->d a)(hn:b=false->∀a,SRep ρ (sg l) a->no a):nl g σ d no:=by
 cases g with
 |none=>cases h;exact j rfl σ c
 | some p=>
   let ⟨s,b0⟩:=p
   simp[qyV]at h;have hs:=c s;unfold nl;dsimp only;have same:∀t:Bool,sg l s= .v (.bool t)->SRep ρ (sg l) (upd σ s (.v (.bool t))):=λt e r=>by
    unfold upd;split
    ·rename_i er;subst er;rw[e];exact .v _
    ·exact c r
   generalize k:sg l s=q at h hs;generalize σ s=u at hs;cases hs<;>try (cases h)
   grind
   ·rename_i v;cases v<;>try (cases h;done)
    simp[qGh]at h;refine⟨λe=>j (by grind) _ (same b0 (by grind)),λe=>hn (by grind) _ (same (!b0) (by grind))⟩
theorem qhH(k:SRep ρ (sg l) σ){h b:XH}(p:HRep ρ h.he H)(hn:ρ.length=h.n){c:COp}{dst:Option Nat}{d:D}(q:xW c dst (sg l) h=some (d,b)){K:D->ab->Prop}
 (r:∀(a:VL) (j:D) (H':ab),ρ <+:a->a.length=b.n->Rep a d j->HRep a b.he H'->K j H'):bj c dst σ H K:=by
 grind [xW,qrM]
def NP(b:qmh S cf){h c:XH}(p:HRep ρ h.he H)(hn:ρ.length=h.n){f:Nat}{args ds:List D}{d:D}(j:XJ h (cf f args ⟨h.he, [], [],h.n⟩)=some (d,c))(q:RepL ρ args ds){K:D->ab->Prop}{t:Nat}
 (r:∀(a:VL) (k:D) (H':ab),ρ <+:a->a.length=c.n->Rep a d k->HRep a c.he H'->K k H'):(S f).pt t ds H K:=by
 unfold XJ at j;split at j
 ·rename_i s h1 hc;cases j;exact b f args _ _ h1 hc ρ ds H K t hn q p r
 grind
theorem qox(q:qmh S cf)(j:SRep ρ (sg l) σ){h u:XH}(s:HRep ρ h.he H)(hn:ρ.length=h.n){c:COp}{dst:Option Nat}{d:D}(p:qoy cf c dst (sg l) h=some (d,u)){K:D->ab->Prop}
 (t:∀(k:VL) (x:D) (H':ab),ρ <+:k->k.length=u.n->Rep k d x->HRep k u.he H'->K x H'):aI S c dst σ H K:=by
 cases c
 case call f args=>exact NP q s hn p (A4 j args) t
 case callb r f args=>exact NP q s hn p (A4 j args) t
 case callv f args=>
  simp[qoy]at p;simp[aI];have w:=bc j f;generalize ev (sg l) f=a at p w;generalize ev σ f=b at w;cases w<;>try (cases p)
  rename_i g cs ds hl hc;exact NP q s hn p ((A4 j args).append ⟨hl,hc⟩) t
 all_goals (simp[qoy]at p;exact qhH j s hn p t)
theorem WL(k:qmh S cf):∀(ls:List CI) (ρ:VL) (s p:XS) (σ:Sg) (H:ab),qza cf ls s=some p->XRep ρ s σ H->∀K:Sg->ab->Prop,(∀(c:VL) (b:Sg) (H':ab),ρ <+:c->XRep c p b H'->K b H')->FH S ls σ H K
 | [],ρ,s,p,σ,H,h,j,K,q=>by cases h;exact q ρ σ H (List.prefix_refl ρ) j
 | ci::r,ρ,s,p,σ,H,h,j,K,q=>by
   have h:qpr cf ci s (qza cf r)=some p:=h;unfold qpr at h;split at h;grind
   ·simp[FH];split at h
    ·rename_i t;split at h
     ·rename_i d h1 ho;refine qe0 t j.2.1 (λ_ b a=>?_) (λe=>by cases e);refine qox k a j.2.2 j.1 ho λu E A hp w C x=>?_
      exact WL k r u _ p _ A h ⟨w,SRep.up hp a C,x⟩ K λc b H' y=>q c b H' (hp.trans y)
     grind
    ·rename_i t;refine qe0 t j.2.1 (λe=>by cases e) (λ_ b a=>?_);exact WL k r ρ _ p _ H h ⟨j.1,SRep.up (List.prefix_refl ρ) a .undef,j.2.2⟩ K q
    grind
theorem qsw{c:COp}(h:quZ c=true){dst:Option Nat}{σ:Sg}{Hr H:ab}{K:D->ab->Prop}(a:bj c dst σ H K):aw S c dst σ Hr H K:=by
 cases c<;>try (cases h)
 all_goals first
  |exact a
  |(rename_i im x;cases im<;>first|exact a|(done))
theorem qqz(d:SRep ρ (sg l) σ){r sz:Nat}{x y:Operand}(h:qxM (some r) (ev (sg l) x)=true){dst:Option Nat}{Hr H:ab}{K:D->ab->Prop}(c:bj (.store (some r) sz x y) dst σ H K):aw S (.store (some r) sz x y) dst σ Hr H K:=by
 have j:=bc d x;refine⟨c.1,c.2.1,?_⟩;have c:=c.2.2;generalize ev (sg l) x=a at h j;generalize ev σ x=b at j c;cases j<;>try (cases h)
 all_goals first|exact c.elim|skip
 all_goals
  have e:=Nat.eq_of_beq_eq_true (show Nat.beq _ r=true from h);grind
theorem qsv(t:SRep ρ (sg l) σ){he J u:HE}{H Hr:ab}(C:HRep ρ he H)(E:HRep ρ J Hr){n L:Nat}(hn:ρ.length=n){rt:Option Nat}{el w bytes:Nat}{x y:Operand}{dst:Option Nat}{d:D}(hb:qxM rt (ev (sg l) x)=true)
 (h:qhx el w bytes (ev (sg l) x) (Y0 w (ev (sg l) y) J) dst he n=some (d,u,L)) {K:D->ab->Prop}
 (M:∀(j:VL) (N:D) (H':ab),ρ <+:j->j.length=L->Rep j d N->HRep j u H'->K N H'):aw S (.append rt el w bytes x y) dst σ Hr H K:=by
 have one:∀y:Value×Nat,ρ <+:ρ++ [y]/\(ρ++ [y]).length=n+1/\(ρ++ [y])[n]? =some y:=λy=>⟨ZI ρ y,by grind,by grind⟩
 simp only[qhx]at h;simp[aw];split at h
 ·rename_i es2 F;refine qdZ E (bc t y) F λO p=>?_
  have rx:=bc t x;generalize ev (sg l) x=a at h hb rx;generalize ev σ x=b at rx;cases rx<;>try (cases h)
  ·split at h<;>rename_i e<;>try (cases e;done)
   ·cases e;cases rt with
    |some r=>cases hb
    | none=>
      split at h
      ·split at h
       ·rename_i hb;cases h;have hb:=QB hb;rw[p.1]at hb;refine⟨hb.1,hb.2,λv=>?_⟩
        let ⟨q,I,A⟩:=one (v,0)
        exact M _ _ _ q I (.own _ _ _ _ A) ((C.mono q).set (.row _ _ _ _ _ _ _ A (p.mono q)))
       grind
      grind
   grind
  ·rename_i id m x b hm;dsimp only at h ⊢;cases rt with
   |none=>cases hb
   | some r=>
     have e:=Nat.eq_of_beq_eq_true (show Nat.beq id r=true from hb);subst e;split at h
     ·rename_i W U w' es Q;split at h
      ·rename_i hb;simp only[qF9]at hb;cases h;obtain⟨k,rfl⟩:=FY C Q
       let ⟨ds,h1,h2⟩:=Ay (c:=0) (y:= .bool true) C Q hb.1.1.1 hm
       have s:=QB hb.2;rw[p.1,h2.1]at s;dsimp only;rw[h1];refine⟨rfl,rfl,Nat.eq_of_beq_eq_true hb.1.1.2,Nat.eq_of_beq_eq_true hb.1.2,s.1,s.2,λv=>?_⟩
       let ⟨q,I,A⟩:=one (v,0)
       exact M _ _ _ q I (.own _ _ _ _ A) ((C.mono q).set (.row _ _ _ _ _ _ _ A ((h2.append p).mono q)))
      ·cases h
     ·cases h
  ·cases hb
 grind
theorem qjW:∀(ls:List CI) {b:HE} {Hr:ab},HRep ρ b Hr->HRep ρ (mk ls b) (bO ls Hr)
 | [],b,Hr,h=>h
 | .frz _ _::_,b,Hr,h=>h
 | .op d g c::l,b,Hr,h=>λi r hi=>by
   have p:=qjW l h;have hi:(qBy (c.wid d) (mk l b)).get i=some r:=hi;unfold qBy at hi;simp only[bO];split at hi
   ·rename_i t e;split at hi
    ·cases hi
    ·rename_i q
     let ⟨s,hi⟩:=Tr.get_del hi
     have a:¬Gu (CI.op d g c).wid i:=by
      show ¬Gu (c.wid d) i;rw[e];intro j;have j:Wu i=Wu t:=j;have k:Wu t≠0:=λu=>q (by simp_all)
      unfold Wu at j k;grind
     rw[if_neg a];exact p i r hi
   ·have a:¬Gu (CI.op d g c).wid i:=by
     show ¬Gu (c.wid d) i;simp_all
    rw[if_neg a];exact p i r hi
theorem WK(u:qpb S pf):∀(ls:List CI) (ρ:VL) (y:HE) (Hr:ab) (s w:XS) (σ:Sg) (H:ab),qy9 pf ls y s=some w->HRep ρ y Hr->XRep ρ s σ H->∀K:Sg->ab->Prop,(∀(x:VL) (p:Sg) (H':ab),ρ <+:x->XRep x w p H'->K p H')->kG S ls σ Hr H K
 | [],ρ,y,Hr,s,w,σ,H,h,q,t,K,J=>by cases h;exact J ρ σ H (List.prefix_refl ρ) t
 | ci::r,ρ,y,Hr,s,w,σ,H,h,q,t,K,J=>by
   have h:qAF pf ci r y s (qy9 pf r)=some w:=h;cases ci with
   |frz a b=>exact WK u r ρ _ _ s w σ H h (qjW r q) t K J
   | op dst g c=>
     simp[qAF]at h;simp[kG];split at h
     ·rename_i L;refine qe0 L t.2.1 (λ_ p j=>?_) (λe=>by cases e);have go:∀(k:VL) (d A:D) (h1:XH) (I:ab),qy9 pf r y ⟨uO s.l dst d,h1⟩=some w->ρ <+:k->k.length=h1.n->Rep k d A->HRep k h1.he I->kG S r (fK p dst A) Hr I K:=λk d A h1 I h hp C E F=>
       WK u r k y Hr _ w _ I h (q.mono hp) ⟨C,SRep.up hp j E,F⟩ K λx p H' M=>J x p H' (hp.trans M)
      split at h
      ·rename_i f args _h;split at h
       ·rename_i d E
        let ⟨pc,h1,h2,h3⟩:=u _ _ _ E ρ _ (A4 j args)
        simp[h1];exact⟨h2,λr' N=>go ρ d r' s.h H h (List.prefix_refl ρ) t.1 (h3 r' N) t.2.2⟩
       grind
      grind [X.XRep,qqz,qhH]
      ·split at h
       ·rename_i O;split at h
        ·rename_i d h1 Q;unfold xH at Q;split at Q
         ·rename_i d0 Z n' U;cases Q;exact qsv j t.2.2 q t.1 O U λk A I hp C E F=>go k _ A _ I h hp C E F
         grind
        grind
       grind
      ·split at h
       ·split at h;grind [X.XRep,qsw,qhH];grind
       ·split at h
        ·rename_i W;split at h
         ·rename_i d Y;exact(iQ W).2 (Lh j q Y λA E=>go ρ d A s.h H h (List.prefix_refl ρ) t.1 E t.2.2)
         grind
        grind
     ·rename_i L;refine qe0 L t.2.1 (λe=>by cases e) (λ_ p j=>?_);exact WK u r ρ y Hr _ w _ H h q ⟨t.1,SRep.up (List.prefix_refl ρ) j .undef,t.2.2⟩ K J
     grind
end
def GR:CC->CC
 | .seq a b=> .seq (GR a) (.cut 0 (GR b))
 | .ite c a b=> .ite c (GR a) (GR b)
 | .block i b=> .block i (GR b)
 | .loop k b=> .loop k (GR b)
 |c=>c
noncomputable def O0(cf:CF)(pf:PF)(k:CC->XS->Option (Ex×XS))(c:CC)(s:XS):Option (Ex×XS):=match c with
 | .skip=>some (.norm,s)
 | .reg l=>match qza cf l s with
   |some q=>some (.norm,q)
   |none=>none
 | .regd p t=>match qy9 pf p (mk p s.h.he) s with
   | some d=>match qza cf t d with
     |some q=>some (.norm,q)
     |none=>none
   |none=>none
 | .seq a b=>match k a s with
   | some (.norm,d)=>match qnu d with
     | some u=>match ZB (qAW b) u with
       |some w=>k b w
       |none=>none
     |none=>none
   |r=>r
 | .ite c a b=>match ev (sg s.l) c with
   | .v (.bool true)=>k a s
   | .v (.bool false)=>k b s
   | _=>none
 | .block i b=>match k b s with
   | some (.ex j,d)=>match Nat.beq j i with
     |true=>some (.norm,d)
     |false=>some (.ex j,d)
   |r=>r
 | .loop key b=>match k b s with
   | some (.norm,d)=>match qnu d with
     |some u=>k (.loop key b) u
     |none=>none
   |r=>r
 | .exit i=>some (.ex i,s)
 | .ret=>some (.ret,s)
 | _=>none
noncomputable def run(cf:CF)(pf:PF)(k:Nat):CC->XS->Option (Ex×XS):=Nat.rec (motive:=λ_=>CC->XS->Option (Ex×XS)) (λ_ _=>none) (λ_ a c s=>O0 cf pf a c s) k
section
variable {S:Nat->Spc}{cf:CF}{pf:PF}
theorem qqP(hcf:qmh S cf)(hpf:qpb S pf):∀(k:Nat) (c:CC) (s:XS) (e:Ex) (u:XS),run cf pf k c s=some (e,u)->∀(ρ:VL) (σ:Sg) (H:ab),XRep ρ s σ H->∀K:Ex->Sg->ab->Prop,
 (∀(J:VL) (L:Sg) (H':ab),ρ <+:J->XRep J u L H'->K e L H')->vc S (GR c) K σ H:=by
 intro k
 induction k using Nat.strongRecOn with
 | _ k Z=>
 intro c s e u h ρ σ H C K U;cases k with
 |zero=>cases h
 |succ k=>
 have h:O0 cf pf (run cf pf k) c s=some (e,u):=h;cases c with
 |skip=>cases h;exact U ρ σ H (List.prefix_refl ρ) C
 | reg l=>
   simp[O0]at h;split at h
   ·rename_i F hl;cases h;exact WL hcf l ρ s u σ H hl C _ U
   grind
 | regd p t=>
   simp[O0]at h;split at h
   ·rename_i F I;split at h
    ·refine WK hpf p ρ _ _ s F σ H I (qjW p C.2.2) C _ λd y H1 hp h1=>?_
     grind [WL]
    grind
   grind
 | seq a b=>
   simp[O0]at h;simp[GR,vc];split at h
   ·rename_i F h1;split at h
    ·rename_i s2 h2;split at h
     ·rename_i s3 h3;refine Z k (Nat.lt_succ_self k) a s _ _ h1 ρ σ H C _ λd y H1 hp r=>?_
      let ⟨M,H2,hw,A⟩:=qex h2 r
      let ⟨N,H3,hw3,W⟩:=Vr _ h3 A
      exact⟨N,H3,λE a w h=>hw3 E a w (hw E a w h),Z k (Nat.lt_succ_self k) b s3 e u h d N H3 W K λJ L H' hp'=>U J L H' (hp.trans hp')⟩
     grind
    grind
   ·cases e<;>grind
 | ite c a b=>
   simp[O0]at h;simp[GR,vc];have hc:=bc C.2.1 c;generalize ev (sg s.l) c=q at h hc;generalize ev σ c=q' at hc;cases hc<;>try (cases h;done)
   grind
 | block i b=>
   simp[O0]at h;simp[GR,vc];split at h
   ·rename_i j F h1;refine Z k (Nat.lt_succ_self k) b s _ _ h1 ρ σ H C _ λd y H1 hp r=>?_
    dsimp only;split at h
    ·rename_i e1;cases h;rw[if_pos (Nat.eq_of_beq_eq_true e1)];grind
    ·rename_i e1;cases h;rw[if_neg (Nat.ne_of_beq_eq_false e1)];grind
   ·rename_i Y;refine Z k (Nat.lt_succ_self k) b s e u h ρ σ H C _ λd y H1 hp r=>?_
    cases e<;>grind
 | loop key b=>
   simp[GR,vc];have en:∀j s,run cf pf j (.loop key b) s=some (e,u)->e≠ .norm:=by
    intro j
    induction j with
    |zero=>intro s h;cases h
    | succ j ih=>
      intro s h;have h:O0 cf pf (run cf pf j) (.loop key b) s=some (e,u):=h;simp[O0]at h;split at h
      ·split at h
       ·exact ih _ h
       ·cases h
      ·rename_i Y;intro e1;subst e1;exact Y u h
   refine⟨⟨Nat×Sg×ab,λx=>x.1<=k+1/\∃(F:XS) (d:VL),ρ <+:d/\XRep d F x.2.1 x.2.2/\run cf pf x.1 (.loop key b) F=some (e,u),λx=>x.2.1,λx=>x.2.2,λx=>x.1⟩,⟨(k+1,σ,H),⟨qGb _,s,ρ,List.prefix_refl ρ,C,h⟩,λ_ _ _ h=>h⟩,?_⟩;rintro⟨j,y,H1⟩ ⟨hj,F,d,I,r,h1⟩;dsimp only at hj h1 r ⊢;cases j with
   |zero=>cases h1
   | succ j=>
     have h1:O0 cf pf (run cf pf j) (.loop key b) F=some (e,u):=h1;simp[O0]at h1;split at h1
     ·rename_i s2 h2;split at h1
      ·rename_i s3 h3;refine Z j (by lia) b F _ _ h2 d y H1 r _ λO M H2 Q A=>?_
       let ⟨N,H3,hw,W⟩:=qex h3 A
       exact⟨(j,N,H3),⟨by lia,s3,O,I.trans Q,W,h1⟩,hw,Nat.lt_succ_self j⟩
      ·cases h1
     ·rename_i Y;refine Z j (by lia) b F e u h1 d y H1 r _ λO M H2 Q A=>?_
      have e2:=en (k+1) s h;cases e with
      |norm=>exact absurd rfl e2
      |ex i=>exact U O M H2 (I.trans Q) A
      |ret=>exact U O M H2 (I.trans Q) A
 |exit i=>cases h;exact U ρ σ H (List.prefix_refl ρ) C
 |ret=>cases h;exact U ρ σ H (List.prefix_refl ρ) C
 |cut _ _=>cases h
 |keep _ _ _=>cases h
end
noncomputable def qgc(σ:Sg)(he:HE):List ai->Option (List D)
 | []=>some []
 | .tmp t::r=>(qgc σ he r).map λl=>σ t::l
 | .cell t agg sz::r=>match vR (.load agg sz (.tmp t)) σ he with
   |some d=>(qgc σ he r).map λl=>d::l
   |none=>none
def Vm{ρ:VL}{b σ:Sg}{he:HE}{H:ab}(a:SRep ρ b σ)(j:HRep ρ he H):∀(rs:List ai) (ls:List D),qgc b he rs=some ls->∀K:List D->Prop,(∀ds,RepL ρ ls ds->K ds)->zi rs σ H K
 | [],ls,h,K,c=>by cases h;exact c [] .nil
 | .tmp t::r,ls,h,K,c=>by
   simp[qgc]at h;obtain⟨l,h,rfl⟩:=h;exact Vm a j r l h _ λds k=>c _ (.cons (a t) k)
 | .cell t agg sz::r,ls,h,K,c=>by
   simp[qgc]at h;split at h
   ·rename_i d k;simp[qGe]at h;obtain⟨l,h,rfl⟩:=h;exact Lh a j k λs p=>Vm a j r l h _ λds q=>c _ (.cons p q)
   grind
noncomputable def num:Nat->List D->SL->SL
 | _, [],l=>l
 |i,d::r,l=>num (i+1) r (l.set i d)
def qeH{ρ:VL} :∀(cs:List D) (i:Nat) (l:SL) (σ:Sg),SRep ρ (sg l) σ->(∀k c,cs[k]? =some c->Rep ρ c (σ (i+k)))->SRep ρ (sg (num i cs l)) σ
 | [],i,l,σ,h,_=>h
 | c::cs,i,l,σ,h,hc=>by
   refine qeH cs (i+1) _ σ (λt=>?_) (λk c' hk=>by have:=hc (k+1) c' (by grind);grind);have b:=h t;unfold sg at b ⊢;split
   ·rename_i d a;rcases Tr.get_set a with⟨rfl,rfl⟩|⟨e,a⟩
    ·exact hc 0 _ rfl
    grind
   ·exact .any _
noncomputable def qEj:D->Bool
 | .v _=>true
 | .undef=>true
 | _=>false
noncomputable def qBa:D->Bool
 | .agg cs=>la (λd=>!qEj d) cs==false
 |d=>qEj d
noncomputable def qA9:D->Bool
 | .tup cs=>la (λd=>!qBa d) cs==false
 |d=>qBa d
noncomputable def qr5(l:List Nat)(he:HE):HE:=List.rec (motive:=λ_=>HE->HE) (λh=>h) (λi _ a h=>a (h.del i)) l he
def Qi:∀(l:List Nat) (he:HE) (i:Nat) (r:Res),(qr5 l he).get i=some r->he.get i=some r
 | [],he,i,r,h=>h
 |j::l,he,i,r,h=>(Tr.get_del (Qi l (he.del j) i r h)).2
noncomputable def qv3(d:D)(h:XH):XH:=Bool.rec h ⟨qr5 h.nw (qr5 h.sm h.he), [], [],h.n⟩ (qA9 d)
theorem qv2(d:D)(h:XH):(qv3 d h).n=h.n:=by
 unfold qv3;cases qA9 d<;>rfl
theorem qoE{ρ:VL}{d:D}{h:XH}{H:ab}(a:HRep ρ h.he H):HRep ρ (qv3 d h).he H:=λi r hi=>by
 unfold qv3 at hi;cases hp:qA9 d with
 |false=>rw[hp]at hi;exact a i r hi
 |true=>rw[hp]at hi;exact a i r (Qi _ _ _ _ (Qi _ _ _ _ hi))
structure Fn where
 cc:CC
 rs:List ai
 N:Nat
noncomputable def qBG(l:List (Nat×Fn))(k:Nat):Option Fn:=List.rec (motive:=λ_=>Option Fn) none (λp _ a=>Bool.rec a (some p.2) (Nat.beq p.1 k)) l
def qeN:∀(l:List (Nat×Fn)) (k:Nat) (fn:Fn),qBG l k=some fn->(k,fn) ∈l
 | [],k,fn,h=>by cases h
 | p::l,k,fn,h=>by
   have h:Bool.rec (motive:=λ_=>Option Fn) (qBG l k) (some p.2) (Nat.beq p.1 k)=some fn:=h;cases e:Nat.beq p.1 k with
   | true=>
     rw[e]at h;grind [Nat.eq_of_beq_eq_true]
   | false=>
     rw[e]at h;exact qHF _ (qeN l k fn h)
noncomputable def qA4(he:HE)(args:List D):Bool:=la (λa=>match a with
 | .bptr i _ _=>(match he.get i with
   |some (.box _ cs)=>la (λc=>!qBa c) cs
   | _=>true)
 | .eptr .. =>true
 | _=>false) args==false
noncomputable def qk9(args:List D)(d:D)(h:XH):XH:=Bool.rec h (qv3 d h) (qA4 h.he args)
def qr2(args:List D)(d:D)(h:XH):(qk9 args d h).n=h.n:=by
 unfold qk9;cases qA4 h.he args
 all_goals grind [qv2]
def qaM{ρ:VL}{args:List D}{d:D}{h:XH}{H:ab}(a:HRep ρ h.he H):HRep ρ (qk9 args d h).he H:=by
 unfold qk9;cases qA4 h.he args;lia;grind [qoE]
noncomputable def tD(fn:Fn)(args:List D)(s:XS):Option (D×XH):=match qgc (sg s.l) s.h.he fn.rs with
 |some ds=>some (dP ds,qk9 args (dP ds) s.h)
 |none=>none
noncomputable def qud(Δ:Nat->Option Fn)(pf:PF)(k:Nat)(cf:CF):CF:=λf args h=>match Δ f with
 | some fn=>match Nat.ble args.length fn.N with
   | true=>match run cf pf k fn.cc ⟨num 0 args .e,h⟩with
     |some (.ex _,_)=>none
     |some (_,s)=>tD fn args s
     |none=>none
   |false=>none
 | none=>match pf f args with
   |some d=>some (d,h)
   |none=>none
noncomputable def MP(Δ:Nat->Option Fn)(pf:PF)(k:Nat):CF:=Nat.rec (motive:=λ_=>CF) (λ_ _ _=>none) (λk a=>qud Δ pf k a) k
def qdi(cf:CF)(f:Nat):PT:=λd ds H K=>∃(args:List D) (h:XH) (r:D) (b:XH) (ρ:VL),cf f args h=some (r,b)/\ρ.length=h.n/\RepL ρ args ds/\HRep ρ h.he H/\
 ((∀(a:VL) (r':D) (H':ab),ρ <+:a->a.length=b.n->Rep a r r'->HRep a b.he H'->K r' H')\/(h.he= .e/\∀(a:VL) (r':D) (H':ab),Rep a r r'->HRep a b.he H'->∃q,FrzTo H' r' q/\K q H))
def qow(cf:CF)(f:Nat):qq (qdi cf f):=λd ds H K s hk ⟨args,h,r,p,ρ,h1,h2,h3,h4,h5⟩=>⟨args,h,r,p,ρ,h1,h2,h3,h4,h5.imp (λh5 j r' H' a b c d=>hk _ _ (h5 j r' H' a b c d)) λh5=>⟨h5.1,λj r' H' a b=>(h5.2 j r' H' a b).imp λq k=>⟨k.1,hk _ _ k.2⟩⟩⟩
def qED(cf:CF)(f:Nat):Spc:= .gen _ (qow cf f)
def Vo{ρ:VL}{cs ds:List D}(h:RepL ρ cs ds):Rep ρ (dP cs) (dP ds):=by
 match cs,ds,h with
 | [], [],h=>exact .tup _ _ h.1 h.2
 | [c], [d],h=>exact h.2 0 c d rfl rfl
 | _::_::_,_::_::_,h=>exact .tup _ _ h.1 h.2
 | [],_::_,h=>grind [X.RepL]
 | _::_, [],h=>grind [X.RepL]
 | [_],_::_::_,h=>grind [X.RepL]
 | _::_::_, [_],h=>grind [X.RepL]
noncomputable def qmo(Δ:Nat->Option Fn)(pf:PF)(T:Nat->Spc)(k:Nat):Nat->Spc:=λf=>match Δ f with
 |some _=>qED (MP Δ pf k) f
 |none=>T f
def qrN{Δ:Nat->Option Fn}{pf:PF}{T:Nat->Spc}{k:Nat}(b:qpb (qmo Δ pf T k) pf):qmh (qmo Δ pf T k) (MP Δ pf k):=λf args h r c a ρ ds H K d hn p q s=>by
 have t:(∃fn,Δ f=some fn)\/pf f args=some r/\c=h:=by
  cases k with
  |zero=>cases a
  | succ k=>
    have a:qud Δ pf k (MP Δ pf k) f args h=some (r,c):=a;unfold qud at a;grind
 rcases t with⟨fn,e⟩|⟨e,rfl⟩
 ·unfold qmo;rw[e];exact⟨args,h,r,c,ρ,a,hn,p,q, .inl s⟩
 ·let ⟨w,u,h1,h2⟩:=b f args r e ρ ds p
  rw[u];exact⟨h1,λr' j=>s ρ r' H (List.prefix_refl ρ) hn (h2 r' j) q⟩
theorem triX_ex{P:Program}{Δ:Nat->Option Fn}{pf:PF}{T:Nat->Spc}(hT:∀f,Tri dq P f (T f).pt)(A:∀k,qpb (qmo Δ pf T k) pf)(J:∀f fn,Δ f=some fn->∃im,BA P f im (GR fn.cc) fn.rs fn.N):∀k f,Tri dq P f (qmo Δ pf T k f).pt:=by
 intro k
 induction k with
 | zero=>
   intro f;unfold qmo;split
   ·rintro O tp w vs ds H d K - - - - - ⟨args,h,r,L,ρ,p,_⟩;cases p
   grind
 | succ k ih=>
   intro f;unfold qmo;split
   ·rename_i fn e
    let ⟨im,yH,enter,fun_,code,h1,h2,h3,h4,h5⟩:=J f fn e
    refine nU ih yH h1 h2 enter h3 h4 h5 ?_;rintro ds H d K ⟨args,h,r,L,ρ,p,hn,ha,hH,C⟩;have p:qud Δ pf k (MP Δ pf k) f args h=some (r,L):=p;unfold qud at p;rw[e]at p;dsimp only at p;split at p
    ·rename_i hN;have hlen:ds.length<=fn.N:=by rw[<-ha.1];exact qF8 hN
     refine⟨hlen,ds,λi=>if(h.he.get i).isSome then H i else none,id,⟨rfl,λk d d' h1 h2=>by rw[h1]at h2;cases h2;exact .same _⟩,λi r hi=>?_,λi j r s _ _ h=>h,?_⟩;grind;have M:HRep ρ h.he (λi=>if(h.he.get i).isSome then H i else none):=λi r hi=>by
      let ⟨r',h1,h2⟩:=hH i r hi
      exact⟨r',by dsimp only;rw[hi];simpa using h1,h2⟩
     have U:SRep ρ (sg (num 0 args .e)) (dI ds):=qeH args 0 .e _ (λt=> .any _) λk c hk=>by
      let ⟨d,h1,h2⟩:=ha.get hk
      simp[dI,h1];exact h2
     have main:∀(e:Ex) (s:XS),run (MP Δ pf k) pf k fn.cc ⟨num 0 args .e,h⟩=some (e,s)->(e= .norm\/e= .ret)->tD fn args s=some (r,L)->
      ∃Q:D->ab->Prop,vc (qmo Δ pf T k) (GR fn.cc) (wC fn.rs Q) (dI ds) (λi=>if(h.he.get i).isSome then H i else none)/\∀r H',Q r H'->∃(r':D) (Hf F:ab) (I:Nat->Option Nat),FrzTo Hf r r'/\(∀j q,Hf j=some q->H' j=some q/\∀i,I i≠some j)/\K r' F/\
       (∀i s,F i=some s->match I i with|some j=>H' j=some s|none=>H i=some s/\∀k q,(if(h.he.get k).isSome then H k else none)=some q->id k≠i)/\
       (∀i j k s q,F i=some s->F j=some q->I i=some k->I j=some k->i=j):=by
      intro e s u x b;unfold tD at b;split at b
      rotate_left
      ·cases b
      rename_i ls W;cases b;refine⟨λr H'=>∃a,ρ <+:a/\a.length=s.h.n/\Rep a (dP ls) r/\HRep a s.h.he H',qqP (qrN (A k)) (A k) k fn.cc _ e s u ρ _ _ ⟨hn,U,M⟩ _ λa σ' H' hp y=>?_,?_⟩
      ·have b:=Vm y.2.1 y.2.2 fn.rs ls W (λds=>∃a,ρ <+:a/\a.length=s.h.n/\Rep a (dP ls) (dP ds)/\HRep a s.h.he H') λds hd=>⟨a,hp,y.1,Vo hd,y.2.2⟩
       rcases x with rfl|rfl
       ·exact b
       ·exact b
      ·rintro r H' ⟨a,hp,Y,y,E⟩;rcases C with C|⟨x,C⟩
       rotate_left
       ·let ⟨q0,Z,hq2⟩:=C a r H' y (qaM E)
        exact⟨q0,H',H,λ_=>none,Z,λj q h=>⟨h,λi e=>by cases e⟩,hq2,λi q hi=>⟨hi,λk q h=>(by rw[x]at h;simp[Tr.get_e]at h)⟩,λi j k q q' _ _ h1 h2=>(by cases h1)⟩
       refine⟨r,dm,λi=>if(s.h.he.get i).isSome then H' i else none,λi=>some i, .same _,λj q h=>(by cases h),C a r _ hp (by rw[qr2];exact Y) y (qaM λi q hi=>?_),λi q hi=>?_,λi j k q q' _ _ h1 h2=>by cases h1;cases h2;rfl⟩
       ·let ⟨q',h1,h2⟩:=E i q hi
        exact⟨q',by rw[hi];simpa using h1,h2⟩
       ·dsimp only at hi ⊢;split at hi
        ·exact hi
        ·cases hi
     split at p;grind
     ·rename_i e1 s1 hne u;refine main e1 s1 u ?_ p;cases e1 with
      |norm=>exact .inl rfl
      |ret=>exact .inr rfl
      |ex i=>exact(hne i rfl).elim
     ·cases p
    grind
   grind
mutual
def pl:D->Bool
 | .v _=>true
 | .agg cs=>qjA cs
 | .tup cs=>qjA cs
 | .list _ cs=>qjA cs
 | .cptr cs _=>qjA cs
 | .clo _ cs=>qjA cs
 | .undef=>true
 | _=>false
def qjA:List D->Bool
 | []=>true
 |d::l=>pl d && qjA l
end
mutual
def qnG{ρ:VL} :∀d:D,pl d=true->Rep ρ d d
 | .v x,_=> .v x
 | .undef,_=> .undef
 | .agg cs,h=> .agg _ _ rfl (vu cs (by grind [pl])).2
 | .tup cs,h=> .tup _ _ rfl (vu cs (by grind [pl])).2
 | .list n cs,h=> .list _ _ _ rfl (vu cs (by grind [pl])).2
 | .cptr cs o,h=> .cptr _ _ _ rfl (vu cs (by grind [pl])).2
 | .clo f cs,h=> .clo _ _ _ rfl (vu cs (by grind [pl])).2
 | .any,h| .own _ _,h| .bptr _ _ _,h| .eptr _ _ _ _ _,h| .sub _ _ _ _ _,h| .tape _,h| .mp _,h| .mst _ _,h=>by grind [pl]
def vu{ρ:VL} :∀l:List D,qjA l=true->RepL ρ l l
 | [],_=> .nil
 | d::l,h=>by
   rw[qjA,qF9]at h;exact .cons (qnG d h.1) (vu l h.2)
end
def qrH{H:ab}{d c:D}(h:FrzTo dm d c):FrzTo H d c:=by
 induction h with
 |same d=>simp
 |any d=>exact .any d
 |nil n=>simp
 |own i j x=>grind [FrzTo]
 |nilown j=>exact .nilown j
 |bptr i j b off=>grind [FrzTo]
 |row h _ _ _ _=>cases h
 |sub h _ _ _ _=>cases h
 |list hl hk _ a=>exact .list hl hk a
 |box h=>cases h
 |agg hl _ a=>grind [FrzTo]
 |tup hl _ a=>grind [FrzTo]
 |clo hl _ a=>grind [FrzTo]
 |nomp=>exact .nomp
 |mrow h _ _ _=>cases h
 |mp hl _ a=>exact .mp hl a
theorem LK{P:Program}{f:Nat}{cf:CF}(E:Tri dq P f (qdi cf f)){A:Type}{G:fN A}{pre:A->Prop}{Y:Type}{er:Y->D}{post:A->Y->Prop}
 (F:∀x,pre x->qjA (G.view x)=true/\∃r h y,cf f (G.view x) ⟨.e, [], [],0⟩=some (r,h)/\(∀(a:VL) (r':D) (H':ab),Rep a r r'->HRep a h.he H'->FrzTo H' r' (er y))/\post x y):Tri dq P f (ax G pre er post).pt:=by
 intro O tp w vs ds H d K hO s p hlen j t;rw[lZ]at t;cases C:G.dec ds with
 |none=>simp_all
 | some x=>
   rw[C]at t
   let ⟨hp,I⟩:=t
   let ⟨h1,r,h,y,h2,h3,h4⟩:=F x hp
   have q:=G.le ds x C;refine E O tp w vs (G.view x) H d K hO s p (by rw[hlen,q.1]) (λk v c h5 h6=>?_) ⟨G.view x,⟨.e, [], [],0⟩,r,h, [],h2,rfl,vu _ h1,λi r h=>(by cases h), .inr ⟨rfl,λa r' H' h5 J=>?_⟩⟩
   ·have u:k<ds.length:=by grind
    have e:=qF6 u;exact(q.2 k _ c e h6).R (H:=dm) (λi r h=>by cases h) (λ_ h=>h) (λi r b h=>by cases h) (j k _ _ h5 e)
   grind
def vq:Value->Value->Bool
 | .int k a, .int c b=>decide (k=c) && decide (a=b)
 | .string a, .string b=>decide (a=b)
 | .bool a, .bool b=>decide (a=b)
 | _,_=>false
theorem qtW{a b:Value}(h:vq a b=true):a=b:=by
 unfold vq at h;grind
def qsx(f:D->D->Bool):List D->List D->Bool
 | [], []=>true
 |c::cs,d::ds=>f c d && qsx f cs ds
 | _,_=>false
def qBe(w:Nat)(d:D):Bool:=d.kn && Nat.beq d.cells.length w
noncomputable def fz:Nat->HE->D->D->Bool
 | 0=>λ_ _ _=>false
 | n+1=>λhe r t=>match t with
   | .any=>true
   | .v x=>(match r with
     | .v y=>vq y x
     | _=>false)
   | .agg a=>(match r with
     | .agg es=>qsx (fz n he) es a
     | _=>false)
   | .tup a=>(match r with
     | .tup es=>qsx (fz n he) es a
     | _=>false)
   | .list w a=>a.all (qBe w) && (match r with
     | .v (.slice none 0 0)=>a.isEmpty
     | .list w' es=>Nat.beq w' w && qsx (fz n he) es a
     | .own id x=>(match he.get id with
       |some (.row b _ w' es)=>qdU b x && Nat.beq w' w && qsx (fz n he) es a
       | _=>false)
     | _=>false)
   | _=>false
def QJ{f:D->D->Bool}{ρ:VL}{H:ab}(p:∀c d c',f c d=true->Rep ρ c c'->FrzTo H c' d):∀(es j es':List D),qsx f es j=true->RepL ρ es es'->es'.length=j.length/\∀(k:Nat) (c c':D),es'[k]? =some c->j[k]? =some c'->FrzTo H c c'
 | [], [],es',_,b=>by
   have h:=b.1;grind
 | c::cs,d::ds,es',h,b=>by
   have hl:=b.1;cases es' with
   |nil=>grind
   | cons a l=>
     simp[qsx]at h;have h0:=b.2 0 c a rfl rfl;have q:=QJ p cs ds l h.2 ⟨by grind,λk x y h1 h2=>b.2 (k+1) x y (by grind) (by grind)⟩;grind
 | [],_::_,_,h,_=>by cases h
 | _::_, [],_,h,_=>by cases h
theorem qpQ{ρ:VL}{he:HE}{H:ab}(s:HRep ρ he H):∀(n:Nat) (r t r':D),fz n he r t=true->Rep ρ r r'->FrzTo H r' t
 | 0,r,t,r',h,j=>by cases h
 | n+1,r,t,r',h,j=>by
   have q:∀c d c',fz n he c d=true->Rep ρ c c'->FrzTo H c' d:=λc d c'=>qpQ s n c d c'
   have p:∀{w:Nat} {a:List D},a.all (qBe w)=true->∀d∈a,d.kn=true/\d.cells.length=w:=λh d A=>by
    simp_all [qBe]
   cases t with
   |any=>exact .any _
   | v x=>
     grind [FrzTo,X.Rep,fz,qtW]
   | agg a=>
     simp[fz]at h;split at h
     ·rename_i es;cases j with
      | agg _ ds hl hh=>
        have:=QJ q es a ds h ⟨hl,hh⟩;exact .agg this.1 this.2
     grind
   | tup a=>
     simp[fz]at h;split at h
     ·rename_i es;cases j with
      | tup _ ds hl hh=>
        have:=QJ q es a ds h ⟨hl,hh⟩;exact .tup this.1 this.2
     grind
   | list w a=>
     simp only[fz,qF9]at h;obtain⟨h0,h⟩:=h;split at h;grind [FrzTo,X.Rep]
     ·rename_i w' es;simp only[qF9]at h;obtain⟨h1,h⟩:=h;have e:=Nat.eq_of_beq_eq_true h1;subst e;cases j with
      | list _ _ ds hl hh=>
        have:=QJ q es a ds h ⟨hl,hh⟩;exact .list this.1 (p h0) this.2
     ·split at h
      ·rename_i C el w' es u;simp only[qF9]at h;obtain⟨⟨h1,h2⟩,h⟩:=h;have e:=Nat.eq_of_beq_eq_true h2;subst e;cases j with
       | own _ m y b hm=>
         obtain⟨k,rfl⟩:=FY s u
         let ⟨ds,h3,h4⟩:=Ay (c:=0) (y:= .bool true) s u h1 hm
         have:=QJ q es a ds h h4;exact .row h3 this.1 (p h0) this.2
      ·cases h
     grind
   | _=>cases h
def qs{P:Program}{f:Nat}{cf:CF}(c:Tri dq P f (qdi cf f)){A:Type}{G:fN A}{pre:A->Prop}{Y:Type}{er:Y->D}{post:A->Y->Prop}
 (b:∀x,pre x->qjA (G.view x)=true/\∃r h y,cf f (G.view x) ⟨.e, [], [],0⟩=some (r,h)/\(∀(a:VL) (r':D),Rep a r r'->FrzTo dm r' (er y))/\post x y):Tri dq P f (ax G pre er post).pt:=
 LK c λx d=>(b x d).imp_right λ⟨r,h,y,h1,h2,h3⟩=>⟨r,h,y,h1,λa r' H' b _=>qrH (h2 a r' b),h3⟩
def YI{P:Program}{f:Nat}{cf:CF}(b:Tri dq P f (qdi cf f)){A:Type}{G:fN A}{pre:A->Prop}{Y:Type}{er:Y->D}{post:A->Y->Prop}
 (a:∀x,pre x->qjA (G.view x)=true/\∃r h y,cf f (G.view x) ⟨.e, [], [],0⟩=some (r,h)/\fz 60 h.he r (er y)=true/\post x y):Tri dq P f (ax G pre er post).pt:=
 LK b λx c=>(a x c).imp_right λ⟨r,h,y,h1,h2,h3⟩=>⟨r,h,y,h1,λd r' H' a j=>qpQ j 60 _ _ _ h2 a,h3⟩
end X
open Go.Proofs X
def qrl:List Nat:=(List.range 200).map (· +100000)
abbrev gx(f:Func)(x:X.Fn)(_:(⟨G.rw_ Tryz.prog f qrl,(f.results.toList.mapM (fD { Tryz.prog with cutTypes:= #[] })).getD [],f.ntmps⟩:X.Fn)=x:=by conv=>lhs;reduce):X.Fn:=x
def qmq(p:Nat×X.Fn):Prop:=∃im,BA Tryz.prog p.1 im (GR p.2.cc) p.2.rs p.2.N
def qAn {f N : Nat} {cc : CC} {rs : List ai} (h : ((Tryz.prog.funcs[f]?).bind fun g => if g.name == "runtime.NumGoroutine" then none else g.body.bind fun c => (aG Tryz.prog qrl g.ntmps c).bind fun cc => (g.results.toList.mapM (fD Tryz.prog)).bind fun rs => some (g.ntmps, cc, rs)) = some (N, bI (GR cc), rs) := by kernel_rfl) : qmq (f, ⟨cc, rs, N⟩) := ⟨qrl, qpR mixed h⟩
def qqa:∀p∈ ([]:List (Nat×X.Fn)),qmq p:=λp h=>by cases h
def qhG{p:Nat×X.Fn}{l:List (Nat×X.Fn)}(h:qmq p)(hl:∀p∈l,qmq p):∀q∈p::l,qmq q:=λq hq=>by
 rcases qGm.1 hq with rfl|hq
 ·exact h
 ·exact hl q hq
def qpC:PF:=λ_ _=>none
noncomputable def ΔL(dl:List (Nat×X.Fn))(f:Nat):Option X.Fn:=qBG dl f
def qqb{dl:List (Nat×X.Fn)}(h:∀p∈dl,qmq p)(k f:Nat):TQ dq f (qmo (ΔL dl) qpC (Kj []) k f):=
 X.triX_ex (ag ae) (λk f args r h=>by cases h) (λf fn e=>h _ (qeN _ _ _ e)) k f
def qhF{dl:List (Nat×X.Fn)}(h:∀p∈dl,qmq p){f:Nat}{fn:X.Fn}(e:ΔL dl f=some fn)(k:Nat):Tri dq Tryz.prog f (qdi (MP (ΔL dl) qpC k) f):=by
 have:=qqb (dq:=dq) h k f;unfold qmo at this;rw[e]at this;exact this
end
section
open Go.Proofs
def Mm:X.Fn:=gx Tryz.f349 _
def Hi:X.Fn:=gx Tryz.f204 _
def Hh:X.Fn:=gx Tryz.f298 _
def T0:X.Fn:=gx Tryz.f245 _
def JR:X.Fn:=gx Tryz.f244 _
def QY:X.Fn:=gx Tryz.f351 _
def JQ:X.Fn:=gx Tryz.f350 _
def Hg:X.Fn:=gx Tryz.f146 _
def QX:X.Fn:=gx Tryz.f300 _
def Ml:X.Fn:=gx Tryz.f207 _
def Mk:X.Fn:=gx Tryz.f331 _
def XG:X.Fn:=gx Tryz.f314 _
def XF:X.Fn:=gx Tryz.f333 _
def qfH:X.Fn:=gx Tryz.f352 _
def TZ:X.Fn:=gx Tryz.f293 _
def NO:X.Fn:=gx Tryz.f330 _
def qfG:X.Fn:=gx Tryz.f335 _
def He:X.Fn:=gx Tryz.f332 _
def Hd:X.Fn:=gx Tryz.f315 _
def Fy:X.Fn:=gx Tryz.f336 _
def JP:X.Fn:=gx Tryz.f268 _
def Fx:X.Fn:=gx Tryz.f321 _
def yJ:X.Fn:=gx Tryz.f340 _
def Et:X.Fn:=gx Tryz.f339 _
def Ck:X.Fn:=gx Tryz.f263 _
def Es:X.Fn:=gx Tryz.f341 _
def Fw:X.Fn:=gx Tryz.f265 _
def Fv:X.Fn:=gx Tryz.f264 _
def Cj:X.Fn:=gx Tryz.f322 _
def Er:X.Fn:=gx Tryz.f266 _
def Ci:X.Fn:=gx Tryz.f299 _
def Ch:X.Fn:=gx Tryz.f206 _
def Ep:X.Fn:=gx Tryz.f205 _
def Fu:X.Fn:=gx Tryz.f323 _
def TY:X.Fn:=gx Tryz.f267 _
def XE:X.Fn:=gx Tryz.f334 _
def Cf:X.Fn:=gx Tryz.f176 _
open Go.Proofs X
variable {dq:Prop}
def dl:List (Nat×X.Fn):=[(P9,Mm),(sM,Hi),(sL,Hh),(qaC,T0),(Nk,JR),(WH,QY),(Nj,JQ),(nY,Hg),(WG,QX),(P8,Ml),(P7,Mk),(qdh,XG),(qdg,XF),(qkR,qfH),(qaB,TZ),(R5,NO),(qkQ,qfG),(Lg,He),(Lf,Hd),(Jj,Fy),(Ni,JP),(Ji,Fx),(AX,yJ),(GN,Et),(EM,Ck),(GM,Es),(Jh,Fw),(Jg,Fv),(EL,Cj),(GK,Er),(EK,Ci),(EJ,Ch),(GJ,Ep),(Jf,Fu),(qaA,TY),(qdf,XE),(rW,Cf)]
def qv4:∀p∈dl,qmq p:=by
 unfold dl
 repeat' first|exact qqa|refine qhG qAn ?_
noncomputable def Δ:Nat->Option X.Fn:=ΔL dl
def qtP{f:Nat}{fn:X.Fn}(h:Δ f=some fn)(k:Nat):Tri dq Tryz.prog f (qdi (MP Δ qpC k) f):=qhF qv4 h k
end
section
mutual
def SrcE:Pat->Int->Int->Span->Prop
 | .mk op c l r mn mx ks,d,leaf,s=>if op=1 then s=⟨leaf,d⟩else if op=4 then rJ ks d leaf s else if op=6 then(match ks with|[]=>False|k::_=>∃i:Int,0<=i/\i<mn/\(i=0\/(aU k).1=(aU k).2)/\SrcE k (d+i* (aU k).1) leaf s)else False
def rJ:List Pat->Int->Int->Span->Prop
 | [],_,_,_=>False
 |k::ks,d,leaf,s=>SrcE k d leaf s\/((aU k).1=(aU k).2/\rJ ks (d+ (aU k).1) (leaf+ (am k).length) s)
end
def qiq{p:Pat}(h:p.op=1)(d leaf:Int)(s:Span):SrcE p d leaf s↔s=⟨leaf,d⟩:=by cases p;simp only at h;unfold SrcE;grind
def qip{p:Pat}(h:p.op=4)(d leaf:Int)(s:Span):SrcE p d leaf s↔rJ p.kids d leaf s:=by cases p;simp only at h;unfold SrcE;grind
def qni{p k:Pat}(h:p.op=6){ks:List Pat}(hk:p.kids=k::ks)(d leaf:Int)(s:Span):SrcE p d leaf s↔ ∃i:Int,0<=i/\i<p.mn/\(i=0\/(aU k).1=(aU k).2)/\SrcE k (d+i* (aU k).1) leaf s:=by
 cases p;simp only at h hk;subst hk;rw[SrcE.eq_def];grind
theorem qir{p:Pat}(h:p.op≠1/\p.op≠4/\p.op≠6)(d leaf:Int)(s:Span):¬SrcE p d leaf s:=by
 cases p;simp_all [SrcE.eq_def]
theorem UZ{v:B->Bool}(p:Pat):eX v p=true->∀(d leaf:Int) (s:Span),SrcE p d leaf s->leaf<=s.b/\s.b<leaf+ (am p).length/\d<=s.e/\s.e<=d+200000*cK p:=by
 induction p using fJ with|_ p a=>?_
 intro hp d leaf s h;rw[aW];rcases qT (dr hp).1 with⟨ho,_⟩|⟨ho,_⟩|⟨ho,k,ks,hk⟩|⟨ho,k,hk⟩
 ·rw[qiq ho]at h;grind
 ·exact absurd h (qir (by omega) _ _ _)
 ·by_cases h4:p.op=4
  ·rw[qip h4]at h;rw[if_neg (by omega),cP];have:∀ks:List Pat,(∀k∈ks,k∈p.kids)->∀d leaf:Int,rJ ks d leaf s->leaf<=s.b/\s.b<leaf+ (ks.flatMap am).length/\d<=s.e/\s.e<=d+200000*bB ks:=by
    intro ks
    induction ks with
    |nil=>intro _ d leaf h;rw[rJ]at h;grind
    | cons k ks c=>
      grind [rJ,bB,List.length_append,ph,eO,aU,zO,cK,cP]
   have:=this p.kids (λk hk=>hk) d leaf h;omega
  grind [absurd,qir]
 ·rw[qni ho hk]at h;obtain⟨i,h0,h1,_,h3⟩:=h;rw[if_neg (by omega),cP,hk,bB,bB];have h4:=a k (by rw[hk];simp) (ph hp (by rw[hk];simp)) _ _ _ h3;have h2:eO (aU k):=zO k (ph hp (by rw[hk];simp));have hn:=(dr hp).2.2;unfold lJ at hn;rw[decide_eq_true_eq]at hn;have hn:=hn ho;unfold eO at h2;have h5:0<=i* (aU k).1:=qHD h0 h2.1;have h6:i* (aU k).1<=16*10000:=Int.mul_le_mul (by omega) h2.2.1 h2.1 (by omega);have j:1<=cK k:=by rw[cP];omega
  simp only[qG0,List.flatMap_nil,qHg];generalize i* (aU k).1=z at*;omega
def SrcsOf(p:Pat)(r:List Span):Prop:=SS r/\∀s,s∈r↔SrcE p 0 0 s
def SrcsOf.eq{p:Pat}{a b:List Span}(h:SrcsOf p a)(k:SrcsOf p b):a=b:=qcl h.1 k.1 λx=>(h.2 x).trans (k.2 x).symm
def qz3:B:=⟨#[115]⟩
def qo4:B:=⟨#[110,112]⟩
def qz2:B:=⟨#[116]⟩
def qsr:B:=⟨#[120]⟩
def qtB:B:=⟨#[121]⟩
def Types:List B:=[qz3,qo4,qz2]
def qbu:List (Int×Int):=[(0,1),(0, -1),(1, -1),(2,2),(0,2),(1,3),(0,0)]
def qtK(lb:List B)(p:Pat):Prop:=(p.op=1/\(p.lab=⟨#[]⟩\/p.lab∈lb)/\p.reg=⟨#[]⟩/\p.mn=0/\p.mx=0/\p.kids=[])\/((p.op=2\/p.op=3)/\p.cond=sW/\p.lab=⟨#[]⟩/\p.reg∈Types/\p.mn=0/\p.mx=0/\p.kids=[])
def WP(lb:List B):Nat->Pat->Prop
 | 0,p=>qtK lb p
 | n+1,p=>qtK lb p\/((p.op=4\/p.op=5)/\p.cond=sW/\p.lab=⟨#[]⟩/\p.reg=⟨#[]⟩/\p.mn=0/\p.mx=0/\∃a b,p.kids=[a,b]/\WP lb n a/\WP lb n b)\/
   (p.op=6/\p.cond=sW/\p.lab=⟨#[]⟩/\p.reg=⟨#[]⟩/\(p.mn,p.mx) ∈qbu/\∃a,p.kids=[a]/\WP lb n a)
theorem qAp{lb:List B}{n:Nat}{p:Pat}(h:qtK lb p):WP lb n p:=by
 cases n<;>grind [WP]
def qfD(lb:List B):Prop:=∀l∈lb,l=qsr\/l=qtB
def yL{lb:List B}{n:Nat}{p:Pat}(h:WP lb n p):qtK lb p\/ ∃m,n=m+1/\(((p.op=4\/p.op=5)/\p.cond=sW/\p.lab=⟨#[]⟩/\p.reg=⟨#[]⟩/\p.mn=0/\p.mx=0/\∃a b,p.kids=[a,b]/\WP lb m a/\WP lb m b)\/
 (p.op=6/\p.cond=sW/\p.lab=⟨#[]⟩/\p.reg=⟨#[]⟩/\(p.mn,p.mx) ∈qbu/\∃a,p.kids=[a]/\WP lb m a)):=by
 cases n with
 |zero=>exact .inl h
 |succ m=>exact h.elim .inl λh=> .inr ⟨m,rfl,h⟩
def JS{lb:List B}{C:Nat->Pat->Prop}(h:∀n p,WP lb n p->(∀k∈p.kids,∃m,n=m+1/\WP lb m k/\C m k)->C n p):∀n p,WP lb n p->C n p:=by
 intro n
 induction n with
 | zero=>
   intro p hp;refine h 0 p hp λk hk=>?_
   rcases hp with hp|hp;grind;grind
 | succ m a=>
   intro p hp;refine h (m+1) p hp λk hk=>⟨m,rfl,?_⟩
   have:WP lb m k:=by
    rcases hp with(hp|hp)|hp|hp;grind;grind;grind;grind
   grind
theorem qmD{v:B->Bool}{lb:List B}(hl:qfD lb)(l:v qz3=true/\v qo4=true/\v qz2=true/\v qsr=true/\v qtB=true):∀n p,WP lb n p->n<=90->eX v p=true:=by
 have key:∀n p,WP lb n p->(n<=90->∀d:Int,d+n<=100->cF p d=true)/\cm pm p=true/\cm (mT v) p=true/\cm lJ p=true:=by
  refine JS λn p hp q=>?_
  have c:pm p=true/\mT v p=true/\lJ p=true:=by
   rw[qU];unfold rL mT lJ;rw[decide_eq_true_eq,decide_eq_true_eq];have r:(p.mn,p.mx) ∈qbu->0<=p.mn/\p.mn<=16/\(p.mx= -1\/p.mn<=p.mx/\p.mx<=16):=by
    intro h;simp[qbu]at h;omega
   have s:p.reg∈Types->v p.reg=true:=by
    grind [qfD,WP,Types]
   rcases yL hp with(⟨h1,h2,h3,h4,h5,h6⟩|⟨h1,h2,h3,h4,h5,h6,j⟩)|⟨m,_,(⟨h1,h2,h3,h4,h5,h6,a,b,j,_⟩|⟨h1,h2,h3,h4,h5,a,j,_⟩)⟩
   ·refine⟨.inl ⟨h1,h3,h4,h5,h6⟩,⟨λh=>by omega,λk=>?_⟩,λh=>by omega⟩;rcases h2 with h2|h2;grind
    ·rcases hl _ h2 with h|h<;>rw[h];grind;grind
   grind;grind;grind
  refine⟨λhn d t=>?_,?_,?_,?_⟩
  ·rw[nW,qF9,decide_eq_true_eq,qGa];grind
  ·rw[cU,qF9,qGa];grind
  ·rw[cU,qF9,qGa];grind
  ·rw[cU,qF9,qGa];grind
 intro n p hp hn;obtain⟨h1,h2,h3,h4⟩:=key n p hp;grind [eX]
theorem qdS{lb:List B} :∀n p,WP lb n p->n<=5->1<=fO p/\fO p<=3^n/\cK p+1<=2^ (n+1):=by
 refine JS λn p hp j hn=>?_
 have hb:(1:Int)<=3^n/\1<=2^n:=⟨Int.pow_pos (by omega),Nat.one_le_two_pow⟩
 rcases yL hp with(⟨h1,h2,h3,h4,h5,h6⟩|⟨h1,h2,h3,h4,h5,h6,d⟩)|⟨m,rfl,(⟨h1,h2,h3,h4,h5,h6,a,b,d,_⟩|⟨h1,h2,h3,h4,h5,a,d,_⟩)⟩
 ·rw[oo,CB,if_pos h6,cP,h6,bB,Nat.pow_succ];omega
 ·rw[oo,CB,if_pos d,cP,d,bB,Nat.pow_succ];omega
 ·obtain⟨c,h,_,a1⟩:=j a (by grind);obtain⟨l,k,_,a2⟩:=j b (by grind);have h:c=m:=by omega
  have k:l=m:=by omega
  subst h;subst k;have a1:=a1 (by omega);have a2:=a2 (by omega);rw[oo,CB,if_neg (by grind),if_neg (by omega),cP,d];grind [fg,bB,Int.pow_succ,Nat.pow_succ]
 ·obtain⟨c,h,_,a1⟩:=j a (by grind);have h:c=m:=by omega
  subst h;have a1:=a1 (by omega);rw[oo,CB,if_neg (by grind),if_pos h1,cP,d];simp only[fg,bB];rw[Int.pow_succ,Nat.pow_succ];rw[Nat.pow_succ]at a1 ⊢;have:(3:Int) ^c<=243:=by
   have:c=0\/c=1\/c=2\/c=3\/c=4:=by omega
   grind
  simp only[qbu,qGm,qH6,qGz,or_false]at h5;grind
def CS:Nat->Cond->Prop
 | 0,c=>c.kids=[]
 |n+1,c=>c.kids.length<=2/\∀k∈c.kids,CS n k
def qdp{n:Nat}{c:Cond}(h:c.kids=[]):CS n c:=by
 cases n
 ·exact h
 ·exact⟨by rw[h];exact qGr _,λk hk=>by rw[h]at hk;simp at hk⟩
def qsf{n m:Nat}{c a:Cond}(hm:n=m+1)(h:c.kids=[a])(b:CS m a):CS n c:=by
 subst hm;refine⟨by rw[h];exact qHp _,λk hk=>?_⟩;rw[h]at hk;have:k=a:=by simpa using hk
 subst this;exact b
def qse{n m:Nat}{c a b:Cond}(hm:n=m+1)(h:c.kids=[a,b])(d:CS m a)(hb:CS m b):CS n c:=by
 subst hm;refine⟨by rw[h];exact qGb _,λk hk=>?_⟩;rw[h]at hk;have:k=a\/k=b:=by simpa using hk
 rcases this with rfl|rfl
 ·exact d
 ·exact hb
def qoJ{n:Nat}{c d:Cond}(h:c.kids=d.kids)(a:CS n d):CS n c:=by
 cases n
 ·exact h.trans a
 ·exact⟨by rw[h];exact a.1,λk hk=>a.2 k (by rw[<-h];exact hk)⟩
def qsg{n:Nat}{c:Cond}(h:CS n c):c.kids.length<=2:=by
 cases n
 ·have:c.kids=[]:=h;rw[this];exact qGr _
 ·exact h.1
def PD:Nat->Pat->Prop
 | 0,p=>(∃m,CS m p.cond)/\p.kids=[]
 |n+1,p=>(∃m,CS m p.cond)/\p.kids.length<=2/\∀k∈p.kids,PD n k
def qjC{n:Nat}{p:Pat}(hc:∃m,CS m p.cond)(h:p.kids=[]):PD n p:=by
 cases n
 ·exact⟨hc,h⟩
 ·exact⟨hc,by rw[h];exact qGr _,λk hk=>by rw[h]at hk;simp at hk⟩
def qq4{n m:Nat}{p a:Pat}(hm:n=m+1)(hc:∃m,CS m p.cond)(h:p.kids=[a])(b:PD m a):PD n p:=by
 subst hm;refine⟨hc,by rw[h];exact qHp _,λk hk=>?_⟩;rw[h]at hk;have:k=a:=by simpa using hk
 subst this;exact b
def qjB{n m:Nat}{p a b:Pat}(hm:n=m+1)(hc:∃m,CS m p.cond)(h:p.kids=[a,b])(c:PD m a)(hb:PD m b):PD n p:=by
 subst hm;refine⟨hc,by rw[h];exact qGb _,λk hk=>?_⟩;rw[h]at hk;have:k=a\/k=b:=by simpa using hk
 rcases this with rfl|rfl
 ·exact c
 ·exact hb
def qfi:∃m,CS m sW:=⟨0,rfl⟩
def qnH{n:Nat}{p:Pat}(h:PD n p):∃m,CS m p.cond:=by cases n<;>exact h.1
def qq5{n:Nat}{p:Pat}(h:PD n p):p.kids.length<=2:=by
 cases n
 ·rw[h.2];exact qGr _
 ·exact h.2.1
def qq6{n:Nat}{p k:Pat}(h:PD n p)(hk:k∈p.kids):∃m,n=m+1/\PD m k:=by
 cases n
 ·rw[h.2]at hk;simp at hk
 ·exact⟨_,rfl,h.2.2 k hk⟩
def qsh{n:Nat}{p k:Cond}(h:CS n p)(hk:k∈p.kids):∃m,n=m+1/\CS m k:=by
 cases n
 ·have h:p.kids=[]:=h;rw[h]at hk;simp at hk
 ·exact⟨_,rfl,h.2 k hk⟩
open Cod (enc dec)
structure Glob where
 op:Int
 a:B
 b:B
 name:B
 arg:B
 val:B
 fold:Bool
 mn:Int
 mx:Int
 args:List B
 kids:List Glob
mutual
def Qf:Glob->D
 | .mk a b c d h j k l p q ks=> .agg [enc a,enc b,enc c,enc d,enc h,enc j,enc k,enc l,enc p,enc q, .list 11 (Dy ks)]
def Dy:List Glob->List D
 | []=>[]
 |k::ks=>Qf k::Dy ks
end
mutual
def qaX:D->Option Glob
 | .agg [b,c,d,h,j,k,l,p,q,r,a]=>(dec b).bind λs=>(dec c).bind λt=>(dec d).bind λu=>(dec h).bind λw=>(dec j).bind λx=>(dec k).bind λy=>(dec l).bind λA=>(dec p).bind λC=>(dec q).bind λE=>(dec r).bind λF=>(Mg a).bind λks=>some (.mk s t u w x y A C E F ks)
 | _=>none
def Mg:D->Option (List Glob)
 | .list n es=>if n=11 then Jn es else none
 | .v (.slice none 0 0)=>some []
 | _=>none
def Jn:List D->Option (List Glob)
 | []=>some []
 |d::ds=>(qaX d).bind λx=>(Jn ds).bind λxs=>some (x::xs)
end
theorem Lk:∀l:List Glob,Dy l=l.map Qf
 | []=>rfl
 | _::l=>by rw[Dy,Lk l];rfl
theorem qfa:∀c:Glob,(Qf c).kn=true
 | .mk .. =>rfl
theorem qaK:∀c:Glob,(Qf c).cells.length=11
 | .mk .. =>rfl
mutual
def qaW:∀c:Glob,qaX (Qf c)=some c
 | .mk a b d j k l p q r s ks=>by
   have h:Mg (.list 11 (Dy ks))=some ks:=by rw[Mg,if_pos rfl];exact TJ ks
   simp_all [Qf,qaX]
def TJ:∀l:List Glob,Jn (Dy l)=some l
 | []=>by rfl
 |c::l=>by simp only[Dy,Jn,qaW c,TJ l,qGt]
end
mutual
def qfg:∀(d:D) (c:Glob),qaX d=some c->FrzTo dm d (Qf c)
 | .agg [l,p,q,r,s,t,u,w,x,y,a],c,h=>by
   simp only[qaX,qF3,qGh]at h;obtain⟨A,h0,C,h1,E,h2,F,h3,I,h4,J,h5,K,h6,L,b,M,j,N,k,ks,hk,rfl⟩:=h;rw[Qf];exact LeL.agg (.cons (Cod.le _ _ h0) (.cons (Cod.le _ _ h1) (.cons (Cod.le _ _ h2) (.cons (Cod.le _ _ h3) (.cons (Cod.le _ _ h4) (.cons (Cod.le _ _ h5) (.cons (Cod.le _ _ h6) (.cons (Cod.le _ _ b) (.cons (Cod.le _ _ j) (.cons (Cod.le _ _ k) ((.cons (qlh a ks hk) .nil))))))))))))
def qlh:∀(d:D) (l:List Glob),Mg d=some l->FrzTo dm d (.list 11 (Dy l))
 | .list n es,l,h=>by
   simp only[Mg]at h;split at h
   ·rename_i hn;subst hn;have hl:=qaV es l h;refine .list hl.1 (λe he=>?_) hl.2;grind [Lk,qfa,qaK]
   grind
 | .v (.slice none 0 0),l,h=>by
   simp only[Mg,qGh]at h;subst h;exact .nil _
def qaV:∀(es:List D) (l:List Glob),Jn es=some l->LeL es (Dy l)
 | [],l,h=>by
   simp only[Jn,qGh]at h;subst h;exact .nil
 | d::ds,l,h=>by
   simp only[Jn,qF3,qGh]at h;obtain⟨x,h1,xs,h2,rfl⟩:=h;rw[Dy];exact .cons (qfg d x h1) (qaV ds xs h2)
end
instance:Cod Glob where
 wd:=11
 enc:=Qf
 dec:=qaX
 kn:=qfa
 wid:=qaK
 dec_enc:=qaW
 le:=qfg
def qhc(ks:List Glob):D.list 11 (Dy ks)=enc ks:=by rw[Lk];rfl
def Ql:∀es:List D,Jn es=es.mapM (dec (X:=Glob))
 | []=>by rfl
 | d::es=>by
   rw[Jn,qGM,Ql es];rfl
def qli:∀d:D,Mg d=dec (X:=List Glob) d:=λd=>by
 unfold Mg;split
 ·rename_i n es;show _=if n=11 then es.mapM (dec (X:=Glob))else none
  rw[Ql]
 ·rfl
 ·rename_i h1 h2;show _=(match d with
   | .list n es=>if n=11 then es.mapM (dec (X:=Glob))else none
   | .v (.slice none 0 0)=>some []
   | _=>none)
  simp
@[simp] theorem qvS(s:Glob):Glob.mk s.op s.a s.b s.name s.arg s.val s.fold s.mn s.mx s.args s.kids=s:=by cases s;rfl
@[simp] theorem qaH(s:Glob):enc s= .agg [enc s.op,enc s.a,enc s.b,enc s.name,enc s.arg,enc s.val,enc s.fold,enc s.mn,enc s.mx,enc s.args,enc s.kids]:=by
 rw[<-qhc];cases s;show Qf _=_;rw[Qf]
@[simp] theorem qxn:Cod.wd Glob=11:=i' rfl
@[simp] theorem qv8(b c d h j k l p q r a:D):dec (X:=Glob) (.agg [b,c,d,h,j,k,l,p,q,r,a])=((dec b).bind λb=>(dec c).bind λc=>(dec d).bind λd=>(dec h).bind λh=>(dec j).bind λj=>(dec k).bind λk=>(dec l).bind λl=>(dec p).bind λp=>(dec q).bind λq=>(dec r).bind λr=>(dec a).bind λa=>some ⟨b,c,d,h,j,k,l,p,q,r,a⟩):=by
 show qaX _=_;simp only[qaX,qli]
structure Filt where
 op:Int
 neg:Bool
 reg:B
instance:Cod Filt where
 wd:=3
 enc f:= .agg [enc f.op,enc f.neg,enc f.reg]
 dec| .agg [j,k,l]=>(dec j).bind λa=>(dec k).bind λb=>(dec l).bind λc=>some ⟨a,b,c⟩|_=>none
 kn _:=rfl
 wid _:=rfl
 dec_enc f:=by rfl
 le d x h:=by
  split at h;grind [FrzTo,Option.bind_eq_some_iff,Cod.le];grind
@[simp] theorem qvT(s:Filt):Filt.mk s.op s.neg s.reg=s:=by rfl
@[simp] theorem qvZ(s:Filt):enc s= .agg [enc s.op,enc s.neg,enc s.reg]:=i' rfl
@[simp] theorem qxo:Cod.wd Filt=3:=i' rfl
structure Qry where
 pat:Pat
 glob:Glob
 filts:List Filt
 strat:Int
def Ln:Pat->List D| .mk op c l r mn mx ks=>enc op::(GV c++ [enc l,enc r,enc mn,enc mx,enc ks])
theorem qhj:∀p:Pat,D.agg (Ln p)=enc p
 | .mk .. =>(qe6 ..).symm
def qds:∀p:Pat,(Ln p).length=13
 | .mk op c l r mn mx ks=>by simp[Ln,Qs]
def Qr(g:Glob):List D:=[enc g.op,enc g.a,enc g.b,enc g.name,enc g.arg,enc g.val,enc g.fold,enc g.mn,enc g.mx,enc g.args,enc g.kids]
theorem qhk(g:Glob):D.agg (Qr g)=enc g:=(qaH g).symm
def qlU{l a:List D}(h:FrzTo dm (.agg l) (.agg a)):LeL l a:=by
 cases h with
 |same=>exact⟨rfl,λk x y b c=>by simp_all⟩
 |agg hl h=>exact⟨hl,h⟩
def qlb{l:List D}{p:Pat}(h:dec (D.agg l)=some p):LeL l (Ln p):=qlU (by grind [qhj,Cod.le])
def qhe{l:List D}{p:Glob}(h:dec (D.agg l)=some p):LeL l (Qr p):=qlU (by grind [qhk,Cod.le])
def qrT(q:Qry):D:= .agg (Ln q.pat++ (Qr q.glob++ [enc q.filts,enc q.strat]))
def qr8:D->Option Qry
 | .agg [h,j,k,l,q,r,t,u,w,x,a,b,c,y,A,C,E,F,I,J,K,L,M,d,f,s]=>(dec (D.agg [h,j,k,l,q,r,t,u,w,x,a,b,c])).bind λp=>(dec (D.agg [y,A,C,E,F,I,J,K,L,M,d])).bind λg=>(dec f).bind λfs=>(dec s).bind λst=>some ⟨p,g,fs,st⟩
 | _=>none
instance:Cod Qry where
 wd:=26
 enc:=qrT
 dec:=qr8
 kn _:=rfl
 wid q:=by simp[qrT,D.cells,qds,Qr]
 dec_enc q:=by
  obtain⟨⟨op,⟨o,n,a,v,l,f,b⟩,lb,rg,mn,mx,ks⟩,g,fs,st⟩:=q;simp[GV,qrT,Ln,Qr,qr8]
 le d x h:=by
  unfold qr8 at h;split at h
  ·simp only[qF3,qGh]at h;obtain⟨p,h0,g,h1,fs,h2,st,h3,rfl⟩:=h;exact LeL.agg ((qlb h0).append ((qhe h1).append (.cons (Cod.le _ _ h2) (.cons (Cod.le _ _ h3) .nil))))
  grind
@[simp] theorem qzf(s:Qry):Qry.mk s.pat s.glob s.filts s.strat=s:=by rfl
@[simp] theorem qzm(s:Qry):enc s= .agg [enc s.pat.op,enc s.pat.cond.op,enc s.pat.cond.name,enc s.pat.cond.arg,enc s.pat.cond.val,enc s.pat.cond.lab,enc s.pat.cond.fold,enc s.pat.cond.kids,enc s.pat.lab,enc s.pat.reg,enc s.pat.mn,enc s.pat.mx,enc s.pat.kids,enc s.glob.op,enc s.glob.a,enc s.glob.b,enc s.glob.name,enc s.glob.arg,enc s.glob.val,enc s.glob.fold,enc s.glob.mn,enc s.glob.mx,enc s.glob.args,enc s.glob.kids,enc s.filts,enc s.strat]:=by
 obtain⟨⟨op,⟨o,n,a,v,l,f,c⟩,lb,rg,mn,mx,ks⟩,g,fs,st⟩:=s;rfl
@[simp] theorem qzu(h j k l q r t u w x a b c y A C E F I J K L M d f s:D):dec (X:=Qry) (.agg [h,j,k,l,q,r,t,u,w,x,a,b,c,y,A,C,E,F,I,J,K,L,M,d,f,s])=((dec (D.agg [h,j,k,l,q,r,t,u,w,x,a,b,c])).bind λp=>(dec (D.agg [y,A,C,E,F,I,J,K,L,M,d])).bind λg=>(dec f).bind λfs=>(dec s).bind λst=>some ⟨p,g,fs,st⟩):=i' rfl
structure qE7 where
 kind:Int
 text:B
 pos:Int
instance:Cod qE7 where
 wd:=3
 enc t:= .agg [.v (.int .u8 t.kind),enc t.text,enc t.pos]
 dec| .agg [.v (.int .u8 k),a,j]=>(dec a).bind λb=>(dec j).bind λc=>some ⟨k,b,c⟩|_=>none
 kn _:=rfl
 wid _:=rfl
 dec_enc f:=by simp only[Cod.dec_enc,qGt]
 le d x h:=by
  split at h
  ·simp only[qF3,qGh]at h;obtain⟨b,h1,c,h2,rfl⟩:=h;exact LeL.agg (.cons (.same _) (.cons (Cod.le _ _ h1) (.cons (Cod.le _ _ h2) .nil)))
  ·cases h
structure Pst where
 l:List qE7
 pos:Int
 deep:Int
 e:Int
 fail:Int
def Pst.step(s:Pst):Pst:={ s with pos:=s.pos+1 }
def E0:B:=⟨#[]⟩
section
variable (A:Pst->Option (Pst×Pat))
end

end
end Go.Gv
