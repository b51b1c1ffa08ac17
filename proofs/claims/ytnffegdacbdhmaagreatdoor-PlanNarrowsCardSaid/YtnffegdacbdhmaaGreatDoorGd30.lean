/- T53 -/
import Derived.Ground.GgzProg
import Derived.Test.YtnffegdacbdhmaaGreatDoorProg
import Derived.Test.YtnffegdacbdhmaaGreatDoorGd29
set_option linter.all false
set_option maxRecDepth 100000
set_option maxHeartbeats 0
open Bool renaming forall_bool → fB', exists_bool → eB'
namespace Go.Gv
variable {dq:Prop}
namespace X
def qhO(S:Nat->Spc)(cf:CF):Prop:=∀f args h r h',cf f args h=some (r,h')->∀(ρ:VL) (ds:List D) (H:ab) (K:D->ab->Prop) (d:Nat),ρ.length=h.n->RepL ρ args ds->HRep ρ h.he H->
 (∀(ρ':VL) (r':D) (H':ab),ρ <+:ρ'->ρ'.length=h'.n->Rep ρ' r r'->HRep ρ' h'.he H'->K r' H')->(S f).pt d ds H K
def qkt(S:Nat->Spc)(pf:PF):Prop:=∀f args r,pf f args=some r->∀(ρ:VL) (ds:List D),RepL ρ args ds->∃pc,S f= .pure pc/\pc.pre ds/\∀r',pc.post ds r'->Rep ρ r r'
section
variable {ρ:VL}{l:SL}{σ:Sg}{H:ab}{S:Nat->Spc}{cf:CF}{pf:PF}
def SRep.up{ρ':VL}(hp:ρ <+:ρ')(h:SRep ρ (sg l) σ){dst:Option Nat}{d d':D}(hd:Rep ρ' d d'):SRep ρ' (sg (uO l dst d)) (fq σ dst d'):=λt=>by
 cases dst with
 |none=>exact(h t).mono hp
 | some s=>
   have ht:=h t;simp only[uO,fq,upd];unfold sg at ht ⊢;split
   ·rename_i d1 hg;rcases Tr.get_set hg with⟨rfl,rfl⟩|⟨e,hg⟩
    ·rw[if_pos rfl];exact hd
    ·rw[if_neg e];rw[hg]at ht;exact ht.mono hp
   ·exact .any _
theorem qaR{g:Option (Nat×Bool)}{b:Bool}(h:qs8 g l=some b)(hσ:SRep ρ (sg l) σ){yes no:Sg->Prop}(hy:b=true->∀σ',SRep ρ (sg l) σ'->yes σ')(hn:b=false->∀σ',SRep ρ (sg l) σ'->no σ'):mV g σ yes no:=by
 cases g with
 |none=>cases h;exact hy rfl σ hσ
 | some p=>
   obtain⟨s,b0⟩:=p;simp only[qs8]at h;have hs:=hσ s;unfold mV;dsimp only;have same:∀t:Bool,sg l s= .v (.bool t)->SRep ρ (sg l) (upd σ s (.v (.bool t))):=λt e r=>by
    unfold upd;split
    ·rename_i er;subst er;rw[e];exact .v _
    ·exact hσ r
   generalize hq:sg l s=q at h hs;generalize σ s=q' at hs;cases hs<;>try (cases h;done)
   ·cases h;exact hn rfl σ hσ
   ·rename_i v;cases v<;>try (cases h;done)
    rename_i t;simp only[qAa]at h;refine⟨λe=>hy (by rw[<-h,e];simp) _ (same b0 (by rw[hq,e])),λe=>hn (by rw[<-h,e];cases b0<;>rfl) _ (same (!b0) (by rw[hq,e]))⟩
def qdp(hσ:SRep ρ (sg l) σ){h h':XH}(hH:HRep ρ h.he H)(hn:ρ.length=h.n){c:COp}{dst:Option Nat}{d:D}(hx:xW c dst (sg l) h=some (d,h')){K:D->ab->Prop}
 (hK:∀(ρ':VL) (d':D) (H':ab),ρ <+:ρ'->ρ'.length=h'.n->Rep ρ' d d'->HRep ρ' h'.he H'->K d' H'):bk c dst σ H K:=by
 unfold xW at hx;split at hx
 ·rename_i d0 he' n' hw;cases hx;exact qmS hσ hH hn hw hK
 ·cases hx
def Le(hcf:qhO S cf){h h':XH}(hH:HRep ρ h.he H)(hn:ρ.length=h.n){f:Nat}{args ds:List D}{d:D}(hx:TC h (cf f args ⟨h.he, [], [],h.n⟩)=some (d,h'))(ha:RepL ρ args ds){K:D->ab->Prop}{t:Nat}
 (hK:∀(ρ':VL) (d':D) (H':ab),ρ <+:ρ'->ρ'.length=h'.n->Rep ρ' d d'->HRep ρ' h'.he H'->K d' H'):(S f).pt t ds H K:=by
 unfold TC at hx;split at hx
 ·rename_i d0 h1 hc;cases hx;exact hcf f args _ _ h1 hc ρ ds H K t hn ha hH hK
 ·cases hx
theorem qjP(hcf:qhO S cf)(hσ:SRep ρ (sg l) σ){h h':XH}(hH:HRep ρ h.he H)(hn:ρ.length=h.n){c:COp}{dst:Option Nat}{d:D}(hx:qjQ cf c dst (sg l) h=some (d,h')){K:D->ab->Prop}
 (hK:∀(ρ':VL) (d':D) (H':ab),ρ <+:ρ'->ρ'.length=h'.n->Rep ρ' d d'->HRep ρ' h'.he H'->K d' H'):aI S c dst σ H K:=by
 cases c
 case call f args=>exact Le hcf hH hn hx (zM hσ args) hK
 case callb r f args=>exact Le hcf hH hn hx (zM hσ args) hK
 case callv f args=>
  simp only[qjQ]at hx;simp only[aI];have hf:=aV hσ f;generalize ev (sg l) f=a at hx hf;generalize ev σ f=b at hf;cases hf<;>try (cases hx;done)
  rename_i g cs ds hl hc;exact Le hcf hH hn hx ((zM hσ args).append ⟨hl,hc⟩) hK
 all_goals (simp only[qjQ]at hx;exact qdp hσ hH hn hx hK)
theorem SP(hcf:qhO S cf):∀(ls:List CI) (ρ:VL) (s s':XS) (σ:Sg) (H:ab),qtn cf ls s=some s'->yp ρ s σ H->∀K:Sg->ab->Prop,(∀(ρ':VL) (σ':Sg) (H':ab),ρ <+:ρ'->yp ρ' s' σ' H'->K σ' H')->DU S ls σ H K
 | [],ρ,s,s',σ,H,h,hr,K,hK=>by cases h;exact hK ρ σ H (List.prefix_refl ρ) hr
 | ci::r,ρ,s,s',σ,H,h,hr,K,hK=>by
   have h:qkF cf ci s (qtn cf r)=some s':=h;unfold qkF at h;split at h
   ·cases h
   ·rename_i dst g c;simp only[DU];split at h
    ·rename_i hg;split at h
     ·rename_i d h1 ho;refine qaR hg hr.2.1 (λ_ σ' hσ'=>?_) (λe=>by cases e);refine qjP hcf hσ' hr.2.2 hr.1 ho λρ1 d' H1 hp hn1 hd hH1=>?_
      exact SP hcf r ρ1 _ s' _ H1 h ⟨hn1,SRep.up hp hσ' hd,hH1⟩ K λρ' σ' H' hp'=>hK ρ' σ' H' (hp.trans hp')
     ·cases h
    ·rename_i hg;refine qaR hg hr.2.1 (λe=>by cases e) (λ_ σ' hσ'=>?_);exact SP hcf r ρ _ s' _ H h ⟨hr.1,SRep.up (List.prefix_refl ρ) hσ' .undef,hr.2.2⟩ K hK
    ·cases h
def qnB{c:COp}(h:qpV c=true){dst:Option Nat}{σ:Sg}{Hr H:ab}{K:D->ab->Prop}(hv:bk c dst σ H K):ax S c dst σ Hr H K:=by
 cases c<;>try (cases h;done)
 all_goals first
  |exact hv
  |(rename_i im x;cases im<;>first|exact hv|(cases h;done))
def qlJ(hσ:SRep ρ (sg l) σ){r sz:Nat}{x y:Operand}(h:qr2 (some r) (ev (sg l) x)=true){dst:Option Nat}{Hr H:ab}{K:D->ab->Prop}(hv:bk (.store (some r) sz x y) dst σ H K):ax S (.store (some r) sz x y) dst σ Hr H K:=by
 have hx:=aV hσ x;simp only[bk]at hv;simp only[ax];refine⟨hv.1,hv.2.1,?_⟩;have hv:=hv.2.2;generalize ev (sg l) x=a at h hx;generalize ev σ x=b at hx hv;cases hx<;>try (cases h;done)
 all_goals first|exact hv.elim|skip
 all_goals
  have e:=Nat.eq_of_beq_eq_true (show Nat.beq _ r=true from h);subst e;exact⟨rfl,hv⟩
theorem qnA(hσ:SRep ρ (sg l) σ){he hr he':HE}{H Hr:ab}(hH:HRep ρ he H)(hHr:HRep ρ hr Hr){n n':Nat}(hn:ρ.length=n){rt:Option Nat}{el w bytes:Nat}{x y:Operand}{dst:Option Nat}{d:D}(hb:qr2 rt (ev (sg l) x)=true)
 (h:qdh el w bytes (ev (sg l) x) (UM w (ev (sg l) y) hr) dst he n=some (d,he',n')) {K:D->ab->Prop}
 (hK:∀(ρ':VL) (d':D) (H':ab),ρ <+:ρ'->ρ'.length=n'->Rep ρ' d d'->HRep ρ' he' H'->K d' H'):ax S (.append rt el w bytes x y) dst σ Hr H K:=by
 have one:∀y:Value×Nat,ρ <+:ρ++ [y]/\(ρ++ [y]).length=n+1/\(ρ++ [y])[n]? =some y:=λy=>⟨Vr ρ y,by simp[hn],by rw[<-hn];exact Wp ρ y⟩
 simp only[qdh]at h;simp only[ax];split at h
 ·rename_i es2 he2;refine ZT hHr (aV hσ y) he2 λes2' hr2=>?_
  have rx:=aV hσ x;generalize ev (sg l) x=a at h hb rx;generalize ev σ x=b at rx;cases rx<;>try (cases h;done)
  ·rename_i v;split at h<;>rename_i e<;>try (cases e;done)
   ·cases e;cases rt with
    |some r=>cases hb
    | none=>
      split at h
      ·split at h
       ·rename_i hb;cases h;have hb:=NM hb;rw[hr2.1]at hb;refine⟨hb.1,hb.2,λv=>?_⟩;obtain⟨o1,o2,o3⟩:=one (v,0);exact hK _ _ _ o1 o2 (.own _ _ _ _ o3) ((hH.mono o1).set (.row _ _ _ _ _ _ _ o3 (hr2.mono o1)))
       ·cases h
      ·cases h
   ·cases h
  ·rename_i id m x b hm;dsimp only at h ⊢;cases rt with
   |none=>cases hb
   | some r=>
     have e:=Nat.eq_of_beq_eq_true (show Nat.beq id r=true from hb);subst e;split at h
     ·rename_i x' el' w' es hg;split at h
      ·rename_i hb;simp only[qzZ]at hb;cases h;obtain⟨k,rfl⟩:=D8 hH hg;obtain⟨ds,h1,h2⟩:=yW (c:=0) (y:= .bool true) hH hg hb.1.1.1 hm;have hbd:=NM hb.2;rw[hr2.1,h2.1]at hbd;dsimp only;rw[h1];refine⟨rfl,rfl,Nat.eq_of_beq_eq_true hb.1.1.2,Nat.eq_of_beq_eq_true hb.1.2,hbd.1,hbd.2,λv=>?_⟩;obtain⟨o1,o2,o3⟩:=one (v,0);exact hK _ _ _ o1 o2 (.own _ _ _ _ o3) ((hH.mono o1).set (.row _ _ _ _ _ _ _ o3 ((h2.append hr2).mono o1)))
      ·cases h
     ·cases h
  ·cases hb
 ·cases h
theorem qft:∀(ls:List CI) {hr:HE} {Hr:ab},HRep ρ hr Hr->HRep ρ (mk ls hr) (bD ls Hr)
 | [],hr,Hr,h=>h
 | .frz _ _::_,hr,Hr,h=>h
 | .op d g c::l,hr,Hr,h=>λi r hi=>by
   have ih:=qft l h;have hi:(qvJ (c.wid d) (mk l hr)).get i=some r:=hi;unfold qvJ at hi;simp only[bD];split at hi
   ·rename_i t e;split at hi
    ·cases hi
    ·rename_i ht;obtain⟨hne,hi⟩:=Tr.get_del hi;have hnw:¬Dt (CI.op d g c).wid i:=by
      show ¬Dt (c.wid d) i;rw[e];intro hw;have hw:SA i=SA t:=hw;have ht0:SA t≠0:=λe0=>ht (by rw[e0];rfl)
      unfold SA at hw ht0;split at ht0
      ·exact ht0 rfl
      ·rename_i k1;rw[if_neg k1]at hw;split at hw
       ·exact ht0 hw.symm
       ·exact hne hw
     rw[if_neg hnw];exact ih i r hi
   ·rename_i e;have hnw:¬Dt (CI.op d g c).wid i:=by
     show ¬Dt (c.wid d) i;rw[e];exactλh=>h
    rw[if_neg hnw];exact ih i r hi
theorem SO(hpf:qkt S pf):∀(ls:List CI) (ρ:VL) (hr:HE) (Hr:ab) (s s':XS) (σ:Sg) (H:ab),qtm pf ls hr s=some s'->HRep ρ hr Hr->yp ρ s σ H->∀K:Sg->ab->Prop,(∀(ρ':VL) (σ':Sg) (H':ab),ρ <+:ρ'->yp ρ' s' σ' H'->K σ' H')->kC S ls σ Hr H K
 | [],ρ,hr,Hr,s,s',σ,H,h,hHr,hx,K,hK=>by cases h;exact hK ρ σ H (List.prefix_refl ρ) hx
 | ci::r,ρ,hr,Hr,s,s',σ,H,h,hHr,hx,K,hK=>by
   have h:quV pf ci r hr s (qtm pf r)=some s':=h;cases ci with
   |frz a b=>exact SO hpf r ρ _ _ s s' σ H h (qft r hHr) hx K hK
   | op dst g c=>
     simp only[quV]at h;simp only[kC];split at h
     ·rename_i hg;refine qaR hg hx.2.1 (λ_ σ' hσ'=>?_) (λe=>by cases e);have go:∀(ρ1:VL) (d d':D) (h1:XH) (H1:ab),qtm pf r hr ⟨uO s.l dst d,h1⟩=some s'->ρ <+:ρ1->ρ1.length=h1.n->Rep ρ1 d d'->HRep ρ1 h1.he H1->kC S r (fq σ' dst d') Hr H1 K:=λρ1 d d' h1 H1 h hp hn1 hd hH1=>
       SO hpf r ρ1 hr Hr _ s' _ H1 h (hHr.mono hp) ⟨hn1,SRep.up hp hσ' hd,hH1⟩ K λρ' σ' H' hp'=>hK ρ' σ' H' (hp.trans hp')
      split at h
      ·rename_i f args _h;split at h
       ·rename_i d hd;obtain⟨pc,h1,h2,h3⟩:=hpf _ _ _ hd ρ _ (zM hσ' args);simp only[ax,h1,YN];exact⟨h2,λr' hr'=>go ρ d r' s.h H h (List.prefix_refl ρ) hx.1 (h3 r' hr') hx.2.2⟩
       ·cases h
      ·split at h
       ·rename_i hrt;split at h
        ·rename_i d h1 hw;exact qlJ hσ' hrt (qdp hσ' hx.2.2 hx.1 hw λρ1 d' H1 hp hn1 hd hH1=>go ρ1 d d' h1 H1 h hp hn1 hd hH1)
        ·cases h
       ·cases h
      ·split at h
       ·rename_i hrt;split at h
        ·rename_i d h1 hw;unfold xH at hw;split at hw
         ·rename_i d0 he' n' hw0;cases hw;exact qnA hσ' hx.2.2 hHr hx.1 hrt hw0 λρ1 d' H1 hp hn1 hd hH1=>go ρ1 _ d' _ H1 h hp hn1 hd hH1
         ·cases hw
        ·cases h
       ·cases h
      ·split at h
       ·rename_i hal;split at h
        ·rename_i d h1 hw;exact qnB hal (qdp hσ' hx.2.2 hx.1 hw λρ1 d' H1 hp hn1 hd hH1=>go ρ1 d d' h1 H1 h hp hn1 hd hH1)
        ·cases h
       ·split at h
        ·rename_i hrd;split at h
         ·rename_i d hx1;exact(iO hrd).2 (II hσ' hHr hx1 λd' hd=>go ρ d d' s.h H h (List.prefix_refl ρ) hx.1 hd hx.2.2)
         ·cases h
        ·cases h
     ·rename_i hg;refine qaR hg hx.2.1 (λe=>by cases e) (λ_ σ' hσ'=>?_);exact SO hpf r ρ hr Hr _ s' _ H h hHr ⟨hx.1,SRep.up (List.prefix_refl ρ) hσ' .undef,hx.2.2⟩ K hK
     ·cases h
end
def EM:CC->CC
 | .seq a b=> .seq (EM a) (.cut 0 (EM b))
 | .ite c a b=> .ite c (EM a) (EM b)
 | .block i b=> .block i (EM b)
 | .loop k b=> .loop k (EM b)
 |c=>c
noncomputable def Mh(cf:CF)(pf:PF)(ih:CC->XS->Option (Ex×XS))(c:CC)(s:XS):Option (Ex×XS):=match c with
 | .skip=>some (.norm,s)
 | .reg l=>match qtn cf l s with
   |some s'=>some (.norm,s')
   |none=>none
 | .regd p t=>match qtm pf p (mk p s.h.he) s with
   | some s1=>match qtn cf t s1 with
     |some s'=>some (.norm,s')
     |none=>none
   |none=>none
 | .seq a b=>match ih a s with
   | some (.norm,s1)=>match qiQ s1 with
     | some s2=>match Vl (qva b) s2 with
       |some s3=>ih b s3
       |none=>none
     |none=>none
   |r=>r
 | .ite c a b=>match ev (sg s.l) c with
   | .v (.bool true)=>ih a s
   | .v (.bool false)=>ih b s
   | _=>none
 | .block i b=>match ih b s with
   | some (.ex j,s1)=>match Nat.beq j i with
     |true=>some (.norm,s1)
     |false=>some (.ex j,s1)
   |r=>r
 | .loop key b=>match ih b s with
   | some (.norm,s1)=>match qiQ s1 with
     |some s2=>ih (.loop key b) s2
     |none=>none
   |r=>r
 | .exit i=>some (.ex i,s)
 | .ret=>some (.ret,s)
 | _=>none
noncomputable def run(cf:CF)(pf:PF)(k:Nat):CC->XS->Option (Ex×XS):=Nat.rec (motive:=λ_=>CC->XS->Option (Ex×XS)) (λ_ _=>none) (λ_ ih c s=>Mh cf pf ih c s) k
section
variable {S:Nat->Spc}{cf:CF}{pf:PF}
theorem ql0(hcf:qhO S cf)(hpf:qkt S pf):∀(k:Nat) (c:CC) (s:XS) (e:Ex) (s':XS),run cf pf k c s=some (e,s')->∀(ρ:VL) (σ:Sg) (H:ab),yp ρ s σ H->∀K:Ex->Sg->ab->Prop,
 (∀(ρ':VL) (σ':Sg) (H':ab),ρ <+:ρ'->yp ρ' s' σ' H'->K e σ' H')->vc S (EM c) K σ H:=by
 intro k
 induction k using Nat.strongRecOn with
 | _ k IH=>
 intro c s e s' h ρ σ H hr K hK;cases k with
 |zero=>cases h
 |succ k=>
 have h:Mh cf pf (run cf pf k) c s=some (e,s'):=h;cases c with
 |skip=>cases h;exact hK ρ σ H (List.prefix_refl ρ) hr
 | reg l=>
   simp only[Mh]at h;split at h
   ·rename_i s1 hl;cases h;exact SP hcf l ρ s s' σ H hl hr _ hK
   ·cases h
 | regd p t=>
   simp only[Mh]at h;split at h
   ·rename_i s1 hp1;split at h
    ·rename_i s2 hl;cases h;refine SO hpf p ρ _ _ s s1 σ H hp1 (qft p hr.2.2) hr _ λρ1 σ1 H1 hp h1=>?_
     exact SP hcf t ρ1 s1 s' σ1 H1 hl h1 _ λρ' σ' H' hp'=>hK ρ' σ' H' (hp.trans hp')
    ·cases h
   ·cases h
 | seq a b=>
   simp only[Mh]at h;simp only[EM,vc];split at h
   ·rename_i s1 h1;split at h
    ·rename_i s2 h2;split at h
     ·rename_i s3 h3;refine IH k (Nat.lt_succ_self k) a s _ _ h1 ρ σ H hr _ λρ1 σ1 H1 hp hr1=>?_
      obtain⟨σ2,H2,hw,hr2⟩:=qam h2 hr1;obtain⟨σ3,H3,hw3,hr3⟩:=RT _ h3 hr2;exact⟨σ3,H3,λE a w h=>hw3 E a w (hw E a w h),IH k (Nat.lt_succ_self k) b s3 e s' h ρ1 σ3 H3 hr3 K λρ' σ' H' hp'=>hK ρ' σ' H' (hp.trans hp')⟩
     ·cases h
    ·cases h
   ·rename_i hne;refine IH k (Nat.lt_succ_self k) a s e s' h ρ σ H hr _ λρ1 σ1 H1 hp hr1=>?_
    cases e with
    |norm=>exact absurd h (hne s')
    |ex i=>exact hK ρ1 σ1 H1 hp hr1
    |ret=>exact hK ρ1 σ1 H1 hp hr1
 | ite c a b=>
   simp only[Mh]at h;simp only[EM,vc];have hc:=aV hr.2.1 c;generalize ev (sg s.l) c=q at h hc;generalize ev σ c=q' at hc;cases hc<;>try (cases h;done)
   rename_i v;cases v<;>try (cases h;done)
   rename_i t;cases t
   ·exact⟨λe=>(by cases e),λ_=>IH k (Nat.lt_succ_self k) b s e s' h ρ σ H hr K hK⟩
   ·exact⟨λ_=>IH k (Nat.lt_succ_self k) a s e s' h ρ σ H hr K hK,λe=>(by cases e)⟩
 | block i b=>
   simp only[Mh]at h;simp only[EM,vc];split at h
   ·rename_i j s1 h1;refine IH k (Nat.lt_succ_self k) b s _ _ h1 ρ σ H hr _ λρ1 σ1 H1 hp hr1=>?_
    dsimp only;split at h
    ·rename_i e1;cases h;rw[if_pos (Nat.eq_of_beq_eq_true e1)];exact hK ρ1 σ1 H1 hp hr1
    ·rename_i e1;cases h;rw[if_neg (Nat.ne_of_beq_eq_false e1)];exact hK ρ1 σ1 H1 hp hr1
   ·rename_i hne;refine IH k (Nat.lt_succ_self k) b s e s' h ρ σ H hr _ λρ1 σ1 H1 hp hr1=>?_
    cases e with
    |norm=>exact hK ρ1 σ1 H1 hp hr1
    |ex i=>exact absurd h (hne i s')
    |ret=>exact hK ρ1 σ1 H1 hp hr1
 | loop key b=>
   simp only[EM,vc];have en:∀j s,run cf pf j (.loop key b) s=some (e,s')->e≠ .norm:=by
    intro j
    induction j with
    |zero=>intro s h;cases h
    | succ j ih=>
      intro s h;have h:Mh cf pf (run cf pf j) (.loop key b) s=some (e,s'):=h;simp only[Mh]at h;split at h
      ·split at h
       ·exact ih _ h
       ·cases h
      ·rename_i hne;intro e1;subst e1;exact hne s' h
   refine⟨⟨Nat×Sg×ab,λx=>x.1<=k+1/\∃(s1:XS) (ρ1:VL),ρ <+:ρ1/\yp ρ1 s1 x.2.1 x.2.2/\run cf pf x.1 (.loop key b) s1=some (e,s'),λx=>x.2.1,λx=>x.2.2,λx=>x.1⟩,⟨(k+1,σ,H),⟨qz2 _,s,ρ,List.prefix_refl ρ,hr,h⟩,λ_ _ _ h=>h⟩,?_⟩;rintro⟨j,σ1,H1⟩ ⟨hj,s1,ρ1,hp1,hr1,h1⟩;dsimp only at hj h1 hr1 ⊢;cases j with
   |zero=>cases h1
   | succ j=>
     have h1:Mh cf pf (run cf pf j) (.loop key b) s1=some (e,s'):=h1;simp only[Mh]at h1;split at h1
     ·rename_i s2 h2;split at h1
      ·rename_i s3 h3;refine IH j (by omega) b s1 _ _ h2 ρ1 σ1 H1 hr1 _ λρ2 σ2 H2 hp2 hr2=>?_
       obtain⟨σ3,H3,hw,hr3⟩:=qam h3 hr2;exact⟨(j,σ3,H3),⟨by omega,s3,ρ2,hp1.trans hp2,hr3,h1⟩,hw,Nat.lt_succ_self j⟩
      ·cases h1
     ·rename_i hne;refine IH j (by omega) b s1 e s' h1 ρ1 σ1 H1 hr1 _ λρ2 σ2 H2 hp2 hr2=>?_
      have e2:=en (k+1) s h;cases e with
      |norm=>exact absurd rfl e2
      |ex i=>exact hK ρ2 σ2 H2 (hp1.trans hp2) hr2
      |ret=>exact hK ρ2 σ2 H2 (hp1.trans hp2) hr2
 |exit i=>cases h;exact hK ρ σ H (List.prefix_refl ρ) hr
 |ret=>cases h;exact hK ρ σ H (List.prefix_refl ρ) hr
 |cut _ _=>cases h
 |keep _ _ _=>cases h
end
noncomputable def qb1(σ:Sg)(he:HE):List ak->Option (List D)
 | []=>some []
 | .tmp t::r=>(qb1 σ he r).map λl=>σ t::l
 | .cell t agg sz::r=>match cV (.load agg sz (.tmp t)) σ he with
   |some d=>(qb1 σ he r).map λl=>d::l
   |none=>none
def RP{ρ:VL}{σe σ:Sg}{he:HE}{H:ab}(hσ:SRep ρ σe σ)(hH:HRep ρ he H):∀(rs:List ak) (ls:List D),qb1 σe he rs=some ls->∀K:List D->Prop,(∀ds,RepL ρ ls ds->K ds)->yY rs σ H K
 | [],ls,h,K,hK=>by cases h;exact hK [] .nil
 | .tmp t::r,ls,h,K,hK=>by
   simp only[qb1,qz6]at h;obtain⟨l,h,rfl⟩:=h;exact RP hσ hH r l h _ λds hd=>hK _ (.cons (hσ t) hd)
 | .cell t agg sz::r,ls,h,K,hK=>by
   simp only[qb1]at h;split at h
   ·rename_i d hd;simp only[qz6]at h;obtain⟨l,h,rfl⟩:=h;exact II hσ hH hd λd' hd'=>RP hσ hH r l h _ λds hds=>hK _ (.cons hd' hds)
   ·cases h
noncomputable def num:Nat->List D->SL->SL
 | _, [],l=>l
 |i,d::r,l=>num (i+1) r (l.set i d)
def qay{ρ:VL} :∀(cs:List D) (i:Nat) (l:SL) (σ:Sg),SRep ρ (sg l) σ->(∀k c,cs[k]? =some c->Rep ρ c (σ (i+k)))->SRep ρ (sg (num i cs l)) σ
 | [],i,l,σ,h,_=>h
 | c::cs,i,l,σ,h,hc=>by
   refine qay cs (i+1) _ σ (λt=>?_) (λk c' hk=>by have:=hc (k+1) c' (by simpa using hk);rw[show i+ (k+1)=i+1+k by omega]at this;exact this);have ht:=h t;unfold sg at ht ⊢;split
   ·rename_i d1 hg;rcases Tr.get_set hg with⟨rfl,rfl⟩|⟨e,hg⟩
    ·exact hc 0 _ rfl
    ·rw[hg]at ht;exact ht
   ·exact .any _
noncomputable def qyi:D->Bool
 | .v _=>true
 | .undef=>true
 | _=>false
noncomputable def qvn:D->Bool
 | .agg cs=>la (λd=>!qyi d) cs==false
 |d=>qyi d
noncomputable def qvm:D->Bool
 | .tup cs=>la (λd=>!qvn d) cs==false
 |d=>qvn d
noncomputable def qm9(l:List Nat)(he:HE):HE:=List.rec (motive:=λ_=>HE->HE) (λh=>h) (λi _ ih h=>ih (h.del i)) l he
def Nr:∀(l:List Nat) (he:HE) (i:Nat) (r:Res),(qm9 l he).get i=some r->he.get i=some r
 | [],he,i,r,h=>h
 |j::l,he,i,r,h=>(Tr.get_del (Nr l (he.del j) i r h)).2
noncomputable def qqy(d:D)(h:XH):XH:=Bool.rec h ⟨qm9 h.nw (qm9 h.sm h.he), [], [],h.n⟩ (qvm d)
def qqx(d:D)(h:XH):(qqy d h).n=h.n:=by
 unfold qqy;cases qvm d<;>rfl
def qjX{ρ:VL}{d:D}{h:XH}{H:ab}(hH:HRep ρ h.he H):HRep ρ (qqy d h).he H:=λi r hi=>by
 unfold qqy at hi;cases hp:qvm d with
 |false=>rw[hp]at hi;exact hH i r hi
 |true=>rw[hp]at hi;exact hH i r (Nr _ _ _ _ (Nr _ _ _ _ hi))
structure Fn where
 cc:CC
 rs:List ak
 N:Nat
noncomputable def qvR(l:List (Nat×Fn))(k:Nat):Option Fn:=List.rec (motive:=λ_=>Option Fn) none (λp _ ih=>Bool.rec ih (some p.2) (Nat.beq p.1 k)) l
def qaG:∀(l:List (Nat×Fn)) (k:Nat) (fn:Fn),qvR l k=some fn->(k,fn) ∈l
 | [],k,fn,h=>by cases h
 | p::l,k,fn,h=>by
   have h:Bool.rec (motive:=λ_=>Option Fn) (qvR l k) (some p.2) (Nat.beq p.1 k)=some fn:=h;cases e:Nat.beq p.1 k with
   | true=>
     rw[e]at h;cases h;rw[<-Nat.eq_of_beq_eq_true e];simp
   | false=>
     rw[e]at h;exact qBx _ (qaG l k fn h)
noncomputable def qvh(he:HE)(args:List D):Bool:=la (λa=>match a with
 | .bptr i _ _=>(match he.get i with
   |some (.box _ cs)=>la (λc=>!qvn c) cs
   | _=>true)
 | .eptr .. =>true
 | _=>false) args==false
noncomputable def qgH(args:List D)(d:D)(h:XH):XH:=Bool.rec h (qqy d h) (qvh h.he args)
def qm7(args:List D)(d:D)(h:XH):(qgH args d h).n=h.n:=by
 unfold qgH;cases qvh h.he args
 ·rfl
 ·exact qqx d h
def WH{ρ:VL}{args:List D}{d:D}{h:XH}{H:ab}(hH:HRep ρ h.he H):HRep ρ (qgH args d h).he H:=by
 unfold qgH;cases qvh h.he args
 ·exact hH
 ·exact qjX hH
noncomputable def sC(fn:Fn)(args:List D)(s:XS):Option (D×XH):=match qb1 (sg s.l) s.h.he fn.rs with
 |some ds=>some (dI ds,qgH args (dI ds) s.h)
 |none=>none
noncomputable def qpc(Δ:Nat->Option Fn)(pf:PF)(k:Nat)(cf:CF):CF:=λf args h=>match Δ f with
 | some fn=>match Nat.ble args.length fn.N with
   | true=>match run cf pf k fn.cc ⟨num 0 args .e,h⟩with
     |some (.ex _,_)=>none
     |some (_,s)=>sC fn args s
     |none=>none
   |false=>none
 | none=>match pf f args with
   |some d=>some (d,h)
   |none=>none
noncomputable def YF(Δ:Nat->Option Fn)(pf:PF)(k:Nat):CF:=Nat.rec (motive:=λ_=>CF) (λ_ _ _=>none) (λk ih=>qpc Δ pf k ih) k
def qjO(cf:CF)(f:Nat):PT:=λd ds H K=>∃(args:List D) (h:XH) (r:D) (h':XH) (ρ:VL),cf f args h=some (r,h')/\ρ.length=h.n/\RepL ρ args ds/\HRep ρ h.he H/\
 ((∀(ρ':VL) (r':D) (H':ab),ρ <+:ρ'->ρ'.length=h'.n->Rep ρ' r r'->HRep ρ' h'.he H'->K r' H')\/(h.he= .e/\∀(ρ':VL) (r':D) (H':ab),Rep ρ' r r'->HRep ρ' h'.he H'->∃q,FrzTo H' r' q/\K q H))
def qjN(cf:CF)(f:Nat):qZ (qjO cf f):=λd ds H K K' hk ⟨args,h,r,h',ρ,h1,h2,h3,h4,h5⟩=>⟨args,h,r,h',ρ,h1,h2,h3,h4,h5.imp (λh5 ρ' r' H' a b c d=>hk _ _ (h5 ρ' r' H' a b c d)) λh5=>⟨h5.1,λρ' r' H' a b=>(h5.2 ρ' r' H' a b).imp λq hq=>⟨hq.1,hk _ _ hq.2⟩⟩⟩
def qyB(cf:CF)(f:Nat):Spc:= .gen _ (qjN cf f)
def RQ{ρ:VL}{cs ds:List D}(h:RepL ρ cs ds):Rep ρ (dI cs) (dI ds):=by
 match cs,ds,h with
 | [], [],h=>exact .tup _ _ h.1 h.2
 | [c], [d],h=>exact h.2 0 c d rfl rfl
 | _::_::_,_::_::_,h=>exact .tup _ _ h.1 h.2
 | [],_::_,h=>have:=h.1;simp at this
 | _::_, [],h=>have:=h.1;simp at this
 | [_],_::_::_,h=>have:=h.1;simp at this
 | _::_::_, [_],h=>have:=h.1;simp at this
noncomputable def qgu(Δ:Nat->Option Fn)(pf:PF)(T:Nat->Spc)(k:Nat):Nat->Spc:=λf=>match Δ f with
 |some _=>qyB (YF Δ pf k) f
 |none=>T f
theorem qmT{Δ:Nat->Option Fn}{pf:PF}{T:Nat->Spc}{k:Nat}(hpf:qkt (qgu Δ pf T k) pf):qhO (qgu Δ pf T k) (YF Δ pf k):=λf args h r h' hx ρ ds H K d hn ha hH hK=>by
 have hd:(∃fn,Δ f=some fn)\/pf f args=some r/\h'=h:=by
  cases k with
  |zero=>cases hx
  | succ k=>
    have hx:qpc Δ pf k (YF Δ pf k) f args h=some (r,h'):=hx;unfold qpc at hx;split at hx
    ·rename_i fn e;exact .inl ⟨fn,e⟩
    ·split at hx
     ·rename_i d' e;cases hx;exact .inr ⟨e,rfl⟩
     ·cases hx
 rcases hd with⟨fn,e⟩|⟨e,rfl⟩
 ·show(qgu Δ pf T k f).pt d ds H K;unfold qgu;rw[e];exact⟨args,h,r,h',ρ,hx,hn,ha,hH, .inl hK⟩
 ·obtain⟨pc,e1,h1,h2⟩:=hpf f args r e ρ ds ha;rw[e1];exact⟨h1,λr' hr'=>hK ρ r' H (List.prefix_refl ρ) hn (h2 r' hr') hH⟩
theorem triX_ex{P:Program}{Δ:Nat->Option Fn}{pf:PF}{T:Nat->Spc}(hT:∀f,Tri dq P f (T f).pt)(hpf:∀k,qkt (qgu Δ pf T k) pf)(hΔ:∀f fn,Δ f=some fn->∃im,Ak P f im (EM fn.cc) fn.rs fn.N):∀k f,Tri dq P f (qgu Δ pf T k f).pt:=by
 intro k
 induction k with
 | zero=>
   intro f;unfold qgu;split
   ·rename_i fn e;rintro O tp w vs ds H d K - - - - - ⟨args,h,r,h',ρ,hx,_⟩;cases hx
   ·exact hT f
 | succ k ih=>
   intro f;unfold qgu;split
   ·rename_i fn e;obtain⟨im,wQ,enter,fun_,code,h1,h2,h3,h4,h5⟩:=hΔ f fn e;refine nG ih wQ h1 h2 enter h3 h4 h5 ?_;rintro ds H d K ⟨args,h,r,h',ρ,hx,hn,ha,hH,hK⟩;have hx:qpc Δ pf k (YF Δ pf k) f args h=some (r,h'):=hx;unfold qpc at hx;rw[e]at hx;dsimp only at hx;split at hx
    ·rename_i hN;have hlen:ds.length<=fn.N:=by rw[<-ha.1];exact qz0 hN
     refine⟨hlen,ds,λi=>if(h.he.get i).isSome then H i else none,id,⟨rfl,λk d d' h1 h2=>by rw[h1]at h2;cases h2;exact .same _⟩,λi r hi=>?_,λi j r s _ _ h=>h,?_⟩
     ·dsimp only at hi;split at hi
      ·exact hi
      ·cases hi
     have hH0:HRep ρ h.he (λi=>if(h.he.get i).isSome then H i else none):=λi r hi=>by
      obtain⟨r',h1,h2⟩:=hH i r hi;exact⟨r',by dsimp only;rw[hi];simpa using h1,h2⟩
     have hS0:SRep ρ (sg (num 0 args .e)) (dC ds):=qay args 0 .e _ (λt=> .any _) λk c hk=>by
      obtain⟨d,h1,h2⟩:=ha.get hk;simp only[dC,qAG,h1,qAE];exact h2
     have main:∀(e:Ex) (s:XS),run (YF Δ pf k) pf k fn.cc ⟨num 0 args .e,h⟩=some (e,s)->(e= .norm\/e= .ret)->sC fn args s=some (r,h')->
      ∃Q:D->ab->Prop,vc (qgu Δ pf T k) (EM fn.cc) (vN fn.rs Q) (dC ds) (λi=>if(h.he.get i).isSome then H i else none)/\∀r H',Q r H'->∃(r':D) (Hf Hc:ab) (κ:Nat->Option Nat),FrzTo Hf r r'/\(∀j q,Hf j=some q->H' j=some q/\∀i,κ i≠some j)/\K r' Hc/\
       (∀i s,Hc i=some s->match κ i with|some j=>H' j=some s|none=>H i=some s/\∀k q,(if(h.he.get k).isSome then H k else none)=some q->id k≠i)/\
       (∀i j k s q,Hc i=some s->Hc j=some q->κ i=some k->κ j=some k->i=j):=by
      intro e s hrun he0 hres;unfold sC at hres;split at hres
      rotate_left
      ·cases hres
      rename_i ls hls;cases hres;refine⟨λr H'=>∃ρ',ρ <+:ρ'/\ρ'.length=s.h.n/\Rep ρ' (dI ls) r/\HRep ρ' s.h.he H',ql0 (qmT (hpf k)) (hpf k) k fn.cc _ e s hrun ρ _ _ ⟨hn,hS0,hH0⟩ _ λρ' σ' H' hp hr=>?_,?_⟩
      ·have hres:=RP hr.2.1 hr.2.2 fn.rs ls hls (λds=>∃ρ',ρ <+:ρ'/\ρ'.length=s.h.n/\Rep ρ' (dI ls) (dI ds)/\HRep ρ' s.h.he H') λds hd=>⟨ρ',hp,hr.1,RQ hd,hr.2.2⟩
       rcases he0 with rfl|rfl
       ·exact hres
       ·exact hres
      ·rintro r H' ⟨ρ',hp,hn',hr,hH'⟩;rcases hK with hK|⟨he0,hK⟩
       rotate_left
       ·obtain⟨q0,hq1,hq2⟩:=hK ρ' r H' hr (WH hH');exact⟨q0,H',H,λ_=>none,hq1,λj q h=>⟨h,λi e=>by cases e⟩,hq2,λi q hi=>⟨hi,λk q h=>(by rw[he0]at h;simp[Tr.get_e]at h)⟩,λi j k q q' _ _ h1 h2=>(by cases h1)⟩
       refine⟨r,cY,λi=>if(s.h.he.get i).isSome then H' i else none,λi=>some i, .same _,λj q h=>(by cases h),hK ρ' r _ hp (by rw[qm7];exact hn') hr (WH λi q hi=>?_),λi q hi=>?_,λi j k q q' _ _ h1 h2=>by cases h1;cases h2;rfl⟩
       ·obtain⟨q',h1,h2⟩:=hH' i q hi;exact⟨q',by rw[hi];simpa using h1,h2⟩
       ·dsimp only at hi ⊢;split at hi
        ·exact hi
        ·cases hi
     split at hx
     ·cases hx
     ·rename_i e1 s1 hne hrun;refine main e1 s1 hrun ?_ hx;cases e1 with
      |norm=>exact .inl rfl
      |ret=>exact .inr rfl
      |ex i=>exact(hne i rfl).elim
     ·cases hx
    ·cases hx
   ·exact hT f
mutual
def pl:D->Bool
 | .v _=>true
 | .agg cs=>qhV cs
 | .tup cs=>qhV cs
 | .list _ cs=>qhV cs
 | .cptr cs _=>qhV cs
 | .clo _ cs=>qhV cs
 | .undef=>true
 | _=>false
def qhV:List D->Bool
 | []=>true
 |d::l=>pl d && qhV l
end
mutual
def qi2{ρ:VL} :∀d:D,pl d=true->Rep ρ d d
 | .v x,_=> .v x
 | .undef,_=> .undef
 | .agg cs,h=> .agg _ _ rfl (uC cs (by simpa [pl]using h)).2
 | .tup cs,h=> .tup _ _ rfl (uC cs (by simpa [pl]using h)).2
 | .list n cs,h=> .list _ _ _ rfl (uC cs (by simpa [pl]using h)).2
 | .cptr cs o,h=> .cptr _ _ _ rfl (uC cs (by simpa [pl]using h)).2
 | .clo f cs,h=> .clo _ _ _ rfl (uC cs (by simpa [pl]using h)).2
 | .any,h| .own _ _,h| .bptr _ _ _,h| .eptr _ _ _ _ _,h| .sub _ _ _ _ _,h| .tape _,h| .mp _,h| .mst _ _,h=>by simp[pl]at h
def uC{ρ:VL} :∀l:List D,qhV l=true->RepL ρ l l
 | [],_=> .nil
 | d::l,h=>by
   rw[qhV,qzZ]at h;exact .cons (qi2 d h.1) (uC l h.2)
end
theorem Uu{P:Program}{f:Nat}{cf:CF}(hf:Tri dq P f (qjO cf f)){A:Type}{G:fT A}{pre:A->Prop}{Y:Type}{er:Y->D}{post:A->Y->Prop}
 (hr:∀x,pre x->qhV (G.view x)=true/\∃r h y,cf f (G.view x) ⟨.e, [], [],0⟩=some (r,h)/\(∀(ρ':VL) (r':D) (H':ab),Rep ρ' r r'->HRep ρ' h.he H'->FrzTo H' r' (er y))/\post x y):Tri dq P f (aL G pre er post).pt:=by
 intro O tp w vs ds H d K hO htl hsat hlen hargs hA;rw[nQ]at hA;cases hd:G.dec ds with
 |none=>rw[hd]at hA;exact hA.elim
 | some x=>
   rw[hd]at hA;obtain⟨hp,hK⟩:=hA;obtain⟨h1,r,h,y,h2,h3,h4⟩:=hr x hp;have hle:=G.le ds x hd;refine hf O tp w vs (G.view x) H d K hO htl hsat (by rw[hlen,hle.1]) (λk v c h5 h6=>?_) ⟨G.view x,⟨.e, [], [],0⟩,r,h, [],h2,rfl,uC _ h1,λi r h=>(by cases h), .inr ⟨rfl,λρ' r' H' h5 h7=>?_⟩⟩
   ·have hlt:k<ds.length:=by rw[<-hlen];exact(qzV.1 h5).1
    have e:=qzX hlt;exact(hle.2 k _ c e h6).R (H:=cY) (λi r h=>by cases h) (λ_ h=>h) (λi r b h=>by cases h) (hargs k _ _ h5 e)
   ·exact⟨er y,h3 ρ' r' H' h5 h7,hK y h4⟩
def vq:Value->Value->Bool
 | .int k a, .int k' b=>decide (k=k') && decide (a=b)
 | .string a, .string b=>decide (a=b)
 | .bool a, .bool b=>decide (a=b)
 | _,_=>false
def qoV{a b:Value}(h:vq a b=true):a=b:=by
 unfold vq at h;split at h
 ·simp only[qzZ,decide_eq_true_eq]at h;rw[h.1,h.2]
 ·rw[of_decide_eq_true h]
 ·rw[of_decide_eq_true h]
 ·cases h
def qnC(f:D->D->Bool):List D->List D->Bool
 | [], []=>true
 |c::cs,d::ds=>f c d && qnC f cs ds
 | _,_=>false
def qvr(w:Nat)(d:D):Bool:=d.kn && Nat.beq d.cells.length w
noncomputable def fz:Nat->HE->D->D->Bool
 | 0=>λ_ _ _=>false
 | n+1=>λhe r t=>match t with
   | .any=>true
   | .v x=>(match r with
     | .v y=>vq y x
     | _=>false)
   | .agg ts=>(match r with
     | .agg es=>qnC (fz n he) es ts
     | _=>false)
   | .tup ts=>(match r with
     | .tup es=>qnC (fz n he) es ts
     | _=>false)
   | .list w ts=>ts.all (qvr w) && (match r with
     | .v (.slice none 0 0)=>ts.isEmpty
     | .list w' es=>Nat.beq w' w && qnC (fz n he) es ts
     | .own id x=>(match he.get id with
       |some (.row x' _ w' es)=>ZN x' x && Nat.beq w' w && qnC (fz n he) es ts
       | _=>false)
     | _=>false)
   | _=>false
theorem NV{f:D->D->Bool}{ρ:VL}{H:ab}(hf:∀c d c',f c d=true->Rep ρ c c'->FrzTo H c' d):∀(es ts es':List D),qnC f es ts=true->RepL ρ es es'->es'.length=ts.length/\∀(k:Nat) (c c':D),es'[k]? =some c->ts[k]? =some c'->FrzTo H c c'
 | [], [],es',_,hr=>by
   have h:=hr.1;cases es' with
   |nil=>exact⟨rfl,λk c c' h=>by simp at h⟩
   |cons a l=>simp at h
 | c::cs,d::ds,es',h,hr=>by
   have hl:=hr.1;cases es' with
   |nil=>simp at hl
   | cons a l=>
     simp only[qnC,qzZ]at h;have h0:=hr.2 0 c a rfl rfl;have ih:=NV hf cs ds l h.2 ⟨by simpa using hl,λk x y h1 h2=>hr.2 (k+1) x y (by simpa using h1) (by simpa using h2)⟩;refine⟨by simp[ih.1],λk x y h1 h2=>?_⟩;cases k with
     |zero=>simp at h1 h2;subst h1;subst h2;exact hf _ _ _ h.1 h0
     |succ k=>exact ih.2 k x y (by simpa using h1) (by simpa using h2)
 | [],_::_,_,h,_=>by cases h
 | _::_, [],_,h,_=>by cases h
theorem qk2{ρ:VL}{he:HE}{H:ab}(hH:HRep ρ he H):∀(n:Nat) (r t r':D),fz n he r t=true->Rep ρ r r'->FrzTo H r' t
 | 0,r,t,r',h,hr=>by cases h
 | n+1,r,t,r',h,hr=>by
   have ih:∀c d c',fz n he c d=true->Rep ρ c c'->FrzTo H c' d:=λc d c'=>qk2 hH n c d c'
   have okl:∀{w:Nat} {ts:List D},ts.all (qvr w)=true->∀d∈ts,d.kn=true/\d.cells.length=w:=λh d hd=>by
    have:=qz4.1 h d hd;simp only[qvr,qzZ]at this;exact⟨this.1,Nat.eq_of_beq_eq_true this.2⟩
   cases t with
   |any=>exact .any _
   | v x=>
     simp only[fz]at h;split at h
     ·rename_i y;cases hr;rw[qoV h];exact .same _
     ·cases h
   | agg ts=>
     simp only[fz]at h;split at h
     ·rename_i es;cases hr with
      | agg _ ds hl hh=>
        have:=NV ih es ts ds h ⟨hl,hh⟩;exact .agg this.1 this.2
     ·cases h
   | tup ts=>
     simp only[fz]at h;split at h
     ·rename_i es;cases hr with
      | tup _ ds hl hh=>
        have:=NV ih es ts ds h ⟨hl,hh⟩;exact .tup this.1 this.2
     ·cases h
   | list w ts=>
     simp only[fz,qzZ]at h;obtain⟨h0,h⟩:=h;split at h
     ·cases hr;have:ts=[]:=by simpa using h
      subst this;exact .nil _
     ·rename_i w' es;simp only[qzZ]at h;obtain⟨h1,h⟩:=h;have e:=Nat.eq_of_beq_eq_true h1;subst e;cases hr with
      | list _ _ ds hl hh=>
        have:=NV ih es ts ds h ⟨hl,hh⟩;exact .list this.1 (okl h0) this.2
     ·rename_i id x;split at h
      ·rename_i x' el w' es hg;simp only[qzZ]at h;obtain⟨⟨h1,h2⟩,h⟩:=h;have e:=Nat.eq_of_beq_eq_true h2;subst e;cases hr with
       | own _ m y b hm=>
         obtain⟨k,rfl⟩:=D8 hH hg;obtain⟨ds,h3,h4⟩:=yW (c:=0) (y:= .bool true) hH hg h1 hm;have:=NV ih es ts ds h h4;exact .row h3 this.1 (okl h0) this.2
      ·cases h
     ·cases h
   | _=>cases h
def Uv{P:Program}{f:Nat}{cf:CF}(hf:Tri dq P f (qjO cf f)){A:Type}{G:fT A}{pre:A->Prop}{Y:Type}{er:Y->D}{post:A->Y->Prop}
 (hr:∀x,pre x->qhV (G.view x)=true/\∃r h y,cf f (G.view x) ⟨.e, [], [],0⟩=some (r,h)/\fz 60 h.he r (er y)=true/\post x y):Tri dq P f (aL G pre er post).pt:=
 Uu hf λx hx=>(hr x hx).imp_right λ⟨r,h,y,h1,h2,h3⟩=>⟨r,h,y,h1,λρ' r' H' hr hH=>qk2 hH 60 _ _ _ h2 hr,h3⟩
end X
open Go.Proofs X
def qmu:List Nat:=(List.range 200).map (· +100000)
abbrev gx(f:Func)(x:X.Fn)(_:(⟨G.rw_ Tryz.prog f qmu,(f.results.toList.mapM (eW { Tryz.prog with cutTypes:= #[] })).getD [],f.ntmps⟩:X.Fn)=x:=by conv=>lhs;reduce):X.Fn:=x
def qk9(p:Nat×X.Fn):Prop:=∃im,Ak Tryz.prog p.1 im (EM p.2.cc) p.2.rs p.2.N
def qy9 {f N : Nat} {cc : CC} {rs : List ak} (h : ((Tryz.prog.funcs[f]?).bind fun g => if g.name == "runtime.NumGoroutine" then none else g.body.bind fun c => (aG Tryz.prog qmu g.ntmps c).bind fun cc => (g.results.toList.mapM (eW Tryz.prog)).bind fun rs => some (g.ntmps, cc, rs)) = some (N, bG (EM cc), rs) := by kernel_rfl) : qk9 (f, ⟨cc, rs, N⟩) := ⟨qmu, qk3 mixed h⟩
def quE:∀p∈ ([]:List (Nat×X.Fn)),qk9 p:=λp h=>by cases h
def qoP{p:Nat×X.Fn}{l:List (Nat×X.Fn)}(h:qk9 p)(hl:∀p∈l,qk9 p):∀q∈p::l,qk9 q:=λq hq=>by
 rcases qAc.1 hq with rfl|hq
 ·exact h
 ·exact hl q hq
def qvo:PF:=λ_ _=>none
noncomputable def ΔL(dl:List (Nat×X.Fn))(f:Nat):Option X.Fn:=qvR dl f
def qll{dl:List (Nat×X.Fn)}(h:∀p∈dl,qk9 p)(k f:Nat):TQ dq f (qgu (ΔL dl) qvo (Jh []) k f):=
 X.triX_ex (ag ae) (λk f args r h=>by cases h) (λf fn e=>h _ (qaG _ _ _ e)) k f
def qoO{dl:List (Nat×X.Fn)}(h:∀p∈dl,qk9 p){f:Nat}{fn:X.Fn}(e:ΔL dl f=some fn)(k:Nat):Tri dq Tryz.prog f (qjO (YF (ΔL dl) qvo k) f):=by
 have:=qll (dq:=dq) h k f;unfold qgu at this;rw[e]at this;exact this
end Go.Gv
namespace Go.Gv
open Go.Proofs
def E7:X.Fn:=gx Tryz.f36 _
def TB:X.Fn:=gx Tryz.f81 _
def E6:X.Fn:=gx Tryz.f82 _
def E4:X.Fn:=gx Tryz.f83 _
def E1:X.Fn:=gx Tryz.f84 _
def DD:X.Fn:=gx Tryz.f85 _
def CR:X.Fn:=gx Tryz.f87 _
def DE:X.Fn:=gx Tryz.f88 _
def Hl:X.Fn:=gx Tryz.f89 _
def EY:X.Fn:=gx Tryz.f91 _
def EW:X.Fn:=gx Tryz.f151 _
def DJ:X.Fn:=gx Tryz.f152 _
def CT:X.Fn:=gx Tryz.f153 _
def EX:X.Fn:=gx Tryz.f213 _
def AV:X.Fn:=gx Tryz.f214 _
def DI:X.Fn:=gx Tryz.f215 _
def DH:X.Fn:=gx Tryz.f266 _
def AU:X.Fn:=gx Tryz.f267 _
def DG:X.Fn:=gx Tryz.f268 _
def DF:X.Fn:=gx Tryz.f269 _
def DL:X.Fn:=gx Tryz.f271 _
def DK:X.Fn:=gx Tryz.f272 _
def Hk:X.Fn:=gx Tryz.f295 _
def AT:X.Fn:=gx Tryz.f296 _
def E5:X.Fn:=gx Tryz.f310 _
def EZ:X.Fn:=gx Tryz.f320 _
def Ld:X.Fn:=gx Tryz.f86 _
def EV:X.Fn:=gx Tryz.f90 _
def Hm:X.Fn:=gx Tryz.f270 _
def JL:X.Fn:=gx Tryz.f148 _
def Lc:X.Fn:=gx Tryz.f149 _
def QG:X.Fn:=gx Tryz.f150 _
open Go.Proofs X
variable {dq:Prop}
def qwP:List (Nat×X.Fn):=[(rN,E7),(Zh,TB),(IG,E6),(IE,E4),(ID,E1),(GK,DD),(EI,CR),(GM,DE),(KC,Hl),(IB,EY),(Iz,EW),(GS,DJ),(EJ,CT),(IA,EX),(C9,AV),(GR,DI),(GP,DH),(C8,AU),(GO,DG),(GN,DF),(GU,DL),(GT,DK),(KB,Hk),(C7,AT),(IF,E5),(IC,EZ),(O6,Ld),(Iy,EV),(KD,Hm),(Ne,JL),(O5,Lc),(Wx,QG)]
def qm8:∀p∈qwP,qk9 p:=by
 unfold qwP
 repeat' first|exact quE|refine qoP qy9 ?_
noncomputable def qzC(s:B):Option (D×XH):=YF (ΔL qwP) qvo 10000 rN [.v (.string s)] ⟨.e, [], [],0⟩
open Cod (enc dec)
noncomputable def qwa(s:B)(q:Qry):Bool:=match qzC s with
 |some (r,h)=>fz 60 h.he r (qk5 (Y:=Qry) (Z:=Int) (W:=Int) (q,0,0))
 |none=>false
def D3(c:UInt8):Pat:=⟨1,⟨2,E0,E0,⟨#[c]⟩,E0,false, []⟩,E0,E0,0,0, []⟩
def qdL:B:=⟨#[34,97,34,32,34,99,34]⟩
def q32:Qry:=⟨⟨4,Cond0,E0,E0,0,0, [D3 97,D3 99]⟩,GlobE, [],0⟩
def qmI:qwa qdL q32=true:=by kernel_rfl
abbrev L2(s:B)(q:Qry):Spc:=aL (a1 B) (λx=>x=s) (qk5 (Y:=Qry) (Z:=Int) (W:=Int)) λ_ y=>y=(q,0,0)
def qdU{s:B}{q:Qry}(h:qwa s q=true):TQ dq rN (L2 s q):=by
 refine Uv (qoO qm8 (fn:=E7) rfl 10000) ?_;rintro x rfl;refine⟨rfl,?_⟩;unfold qwa at h;split at h
 ·rename_i r hh he;exact⟨r,hh,(q,0,0),he,h,rfl⟩
 ·cases h
def qbP:TQ dq rN (L2 qdL q32):=qdU qmI
end Go.Gv
namespace Go.Gv
open Go.Proofs
open Cod (enc dec)
variable {S S0:Nat->Spc}
def c32:Corpus:=⟨[⟨⟨#[119,111,114,100]⟩,false⟩], [[⟨#[97]⟩], [⟨#[98]⟩], [⟨#[97]⟩], [⟨#[99]⟩]], [⟨⟨#[116]⟩,0,4, []⟩], [], [], [], []⟩
abbrev PH:Spc:=aL a0 (λ_=>True) (enc (X:=Bool)) λ_ y=>y=true
def TA:List Span:=[⟨0,0⟩,⟨1,1⟩]
def qkG:SrcsOf q32.pat TA:=by
 refine⟨by simp[SS,TA,AP],λs=>?_⟩;show s∈TA↔SrcE ⟨4,Cond0,E0,E0,0,0, [D3 97,D3 99]⟩ 0 0 s;have w1:aU (D3 97)=(1,1):=by decide
 have l1:aq (D3 97)=[D3 97]:=rfl;rw[qd1 rfl];show s∈TA↔qX [D3 97,D3 99] 0 0 s;rw[qX,qX,qX,qd2 rfl,qd2 rfl,w1,l1];simp[TA]
def qq0:I4 c32 q32 TA=[2]:=by kernel_rfl
def qnv:wm (nN c32 q32) [] TA=[⟨1,1⟩]:=by kernel_rfl
def qvs:ZI TA TA:=by
 intro k x hx
 match k with
 | 0=>simp[TA]at hx;subst hx;exact⟨by simp[TA],λ_ h=>by omega⟩
 | 1=>simp[TA]at hx;subst hx;exact⟨by simp[TA],λy _ hy=>by simp[TA]at hy;subst hy;decide⟩
 |k+2=>simp[TA]at hx
def qiX{y:List Int×Int}(h:qbk (c32,q32,TA) y):y=([2],0):=by
 obtain⟨F,hF,h⟩:=h;have e:F=TA:=SrcsOf.eq hF qkG;subst e;rcases h with⟨rfl,_⟩|⟨_,h⟩
 ·exact congrArg (·,0) qq0
 ·exact absurd qvs h
def qeZ{y:List Span×Int}(h:ZC (c32,q32) y):y=([⟨1,1⟩],0):=by
 obtain⟨F,hF,rfl⟩:=h;have e:F=TA:=SrcsOf.eq hF qkG;subst e;exact congrArg (·,0) qnv
theorem qbD{V:List Attr->Qry->Prop}(h1:S rN=L2 qdL q32)(h2:S rp=Rz V)(h3:S BY=Z0 V)(h4:S zF=YC)(h5:S EH=LZ)(hB:wo V c32 q32):am vz uy S a0 (λ_=>True) (enc (X:=Bool)) λ_ y=>y=true:=by
 rintro⟨⟩ -;have hP:QC V (⟨[⟨⟨#[119,111,114,100]⟩,false⟩], [[⟨#[97]⟩], [⟨#[98]⟩], [⟨#[97]⟩], [⟨#[99]⟩]], [⟨⟨#[116]⟩,0,4, []⟩], [], [], [], []⟩,q32, [⟨0,0⟩,⟨1,1⟩]):=⟨hB,by decide⟩
 have hP2:wo V ⟨[⟨⟨#[119,111,114,100]⟩,false⟩], [[⟨#[97]⟩], [⟨#[98]⟩], [⟨#[97]⟩], [⟨#[99]⟩]], [⟨⟨#[116]⟩,0,4, []⟩], [], [], [], []⟩ q32:=hB;simp[vz,uy,h1,h2,h3,hP,hP2,-fB'];refine⟨rfl,λa e hq=>?_⟩;have hq:(a,e)=([2],0):=qiX hq;cases hq;intro b f hq2;have hq2:(b,f)=([⟨1,1⟩],0):=qeZ hq2;cases hq2;simp[h4,h5,Dj,-fB']
def V12(a:List Attr)(q:Qry):Prop:=qdf a q\/quA a q
def qkJ{x:Cond}(h1:gL x<=60)(h2:dm x<=60)(h:(qhW c32.attrs [] (jF x) && (List.range 4).all λi=>(vI ⟨c32,(i:Int), [], []⟩ 21 (jF x)).isSome)=true):Hh (c32,x):=by
 simp only[qzZ,qz4,qBd]at h;exact⟨⟨(by decide:c32.toks.length<=100000),(by decide:∀r∈c32.toks,r.length<=100000),(by decide:c32.attrs.length<=1000)⟩,h1,h2,h.1,λi hi=>qAW.1 (h.2 i hi)⟩
def qmB{x:Pat}(hx:x∈aq q32.pat):x=D3 97\/x=D3 99:=by
 have h:x∈ [D3 97,D3 99]:=hx;simpa using h
def qfn:Jd (λq=>vG q/\lJ q=true/\mI aJ q=true) q32.pat:=by
 have v0:∀q:Pat,q.op≠2->q.op≠3->q.lab=⟨#[]⟩->mI aJ q=true:=λq h2 h3 h=>by
  unfold mI;rw[decide_eq_true_eq];exact⟨λh'=>by omega,λh'=>absurd h h'⟩
 intro q hq;have:q∈ [q32.pat,D3 97,D3 99]:=hq;simp only[qAc,qAL,or_false]at this;rcases this with rfl|rfl|rfl
 ·exact⟨.inr (.inr (.inl ⟨.inl rfl,rfl,rfl,rfl,rfl,rfl,by decide⟩)),rfl,v0 _ (by decide) (by decide) rfl⟩
 ·exact⟨.inl ⟨rfl,rfl,rfl,rfl,rfl⟩,rfl,v0 _ (by decide) (by decide) rfl⟩
 ·exact⟨.inl ⟨rfl,rfl,rfl,rfl,rfl⟩,rfl,v0 _ (by decide) (by decide) rfl⟩
def RX{f:Pat->Bool}(p:Pat)(h:Jd (λq=>f q=true) p):ck f p=true:=by
 induction p using fZ with|_ p ih=>?_
 rw[cM,PW h,qBF,qz4];exactλk hk=>ih k hk (Vs h hk)
def qkQ:fJ aJ q32.pat=true:=by
 unfold fJ;rw[RX q32.pat (CB qfn λq h=>(tR q).2 h.1),RX q32.pat (CB qfn λq h=>h.2.2),RX q32.pat (CB qfn λq h=>h.2.1)];rfl
def qki:wo V12 c32 q32:=by
 refine⟨.inr ⟨rfl,rfl,rfl,qkQ,by decide,by decide,by decide,by decide,λx hx=>?_⟩,qkQ,by decide,⟨by decide,by decide⟩,⟨by decide,λx hx=>?_⟩,by decide,λx hx=>?_⟩
 ·rcases qmB hx with rfl|rfl
  ·exact⟨by kernel_rfl,1,by decide,λk hk=>by cases hk⟩
  ·exact⟨by kernel_rfl,1,by decide,λk hk=>by cases hk⟩
 ·rcases qmB hx with rfl|rfl
  ·exact⟨1,by decide,λk hk=>by cases hk⟩
  ·exact⟨1,by decide,λk hk=>by cases hk⟩
 ·rcases qmB hx with rfl|rfl
  ·exact qkJ (by decide) (by decide) (by kernel_rfl)
  ·exact qkJ (by decide) (by decide) (by kernel_rfl)
def Xq{n:Nat}{c:Corpus}{q:Qry}(hc:qbr c)(hq:GQ n q)(hn:n<=5):wo V12 c q:=
 have h:=(NR hc hq hn).1
 ⟨.inl h.v,h.pat,h.size,h.fx,h.pl,h.few,h.sel⟩
def qmx{c:Corpus}(h:Xx c)(hk:Pi c)(hl:(c.toks.length:Int)<=3*6):qbr c:=⟨qmm h hk,by omega⟩
def qeQ(n:Nat):(yX n).length=n:=by simp[yX]
abbrev qpj:Spc:=aL (a3 (List Int) (List Int) (List Int)) (λ_=>True) (enc (X:=Bool)) λ_ y=>y=true
end Go.Gv
namespace Go.Gv
open Go.Proofs
def jR:CC:=gq Tryz.f3 [] { cu:=[4,20] } _
def jD:List ak:=[.tmp 6]
def AL:FO te [] jR jD 124:=fo
open Cod (enc dec)
variable {S S0:Nat->Spc}
def qfb{F s:List Span}(hF:SS F)(h:s.Sublist F):ZI F s:=by
 intro k x hx;refine⟨h.subset (qzY hx),λy hk hy=>?_⟩;have hs:s.Pairwise AP:=hF.sublist h;obtain⟨k1,e1⟩:=qzV.1 hx;obtain⟨k2,e2⟩:=qzV.1 hy;have:=qA1.1 hs (k -1) k k2 k1 (by omega);rw[e1,e2]at this;have h2:=Xa y x;rcases Int.lt_or_le (rQ y x) 0 with h3|h3
 ·exact h3
 ·exact absurd this (h2.1 h3)
def qbx{y:List Int}{i:Int}{j:Nat}{b:Int}{w:List Int}(hy:y.Nodup)(hj:y[j]? =some b):(if i∈y.take (j+1)then w++ [i]else w)=if i=b then(if i∈y.take j then w++ [i]else w) ++ [i]else(if i∈y.take j then w++ [i]else w):=by
 have hm:i∈y.take (j+1) ↔i∈y.take j\/i=b:=by rw[au hj];simp
 by_cases h:i=b
 ·subst h;have hn:i∉y.take j:=λhm=>by
   have h2:(y.take j++ [i]).Nodup:=by rw[<-au hj];exact hy.sublist (List.take_sublist _ _)
   exact(qBT.1 h2).2.2 i hm i (by simp) rfl
  rw[if_pos (hm.2 (.inr rfl)),if_pos rfl,if_neg hn]
 ·rw[if_neg h];by_cases h2:i∈y.take j
  ·rw[if_pos (hm.2 (.inl h2)),if_pos h2]
  ·rw[if_neg (λh3=>(hm.1 h3).elim h2 h),if_neg h2]
def qda{c:Corpus}{q:Qry}{a b s:List Span}(h:∀x,x∈s↔x∈a\/x∈b):I4 c q s=(I4 c q a).filter λi=>decide (i∈I4 c q b):=by
 unfold I4;rw[List.filter_filter];refine List.filter_congr λi hi=>?_
 rw[qAB];simp only[qz4,qzZ,decide_eq_true_eq,qAV];constructor
 ·exactλg=>⟨⟨hi,λx hx=>g x ((h x).2 (.inr hx))⟩,λx hx=>g x ((h x).2 (.inl hx))⟩
 ·rintro⟨⟨_,g1⟩,g2⟩ x hx;rcases(h x).1 hx with h1|h1
  ·exact g2 x h1
  ·exact g1 x h1
def qri(F:List Span)(k:Nat)(z:List Span×List Span×List Span):Prop:=z.1.Sublist (F.take k)/\z.2.1.Sublist (F.take k)/\z.2.2.Sublist (F.take k)/\∀x,x∈z.1↔x∈z.2.1\/x∈z.2.2
def qaA{F:List Span}{k:Nat}{z:List Span×List Span×List Span}(h:qri F k z):z.1.length<=k/\z.2.1.length<=k/\z.2.2.length<=k:=by
 have hk:(F.take k).length<=k:=by rw[qAq];omega
 exact⟨qAx h.1.length_le hk,qAx h.2.1.length_le hk,qAx h.2.2.1.length_le hk⟩
def LP{F s:List Span}{k:Nat}{x:Span}(hx:F[k]? =some x)(h:s.Sublist (F.take k)):s.Sublist (F.take (k+1))/\(s++ [x]).Sublist (F.take (k+1)):=by
 rw[au hx];exact⟨h.trans (List.sublist_append_left _ _),h.append (List.Sublist.refl _)⟩
def qko:De .i64 0 1=0/\De .i64 0 2=0/\De .i64 1 1=1/\De .i64 1 2=0/\De .i64 2 1=0/\De .i64 2 2=2/\De .i64 3 1=1/\De .i64 3 2=2:=by decide
theorem Gq{F:List Span}{k:Nat}{x:Span}{z1 z2 z3:List Span}(hx:F[k]? =some x)(hz:qri F k (z1,z2,z3))(a b:Bool):qri F (k+1) (if(a||b)=true then z1++ [x]else z1,if a=true then z2++ [x]else z2,if b=true then z3++ [x]else z3):=by
 obtain⟨h1,h2,h3,h4⟩:=hz;have g1:=LP hx h1;have g2:=LP hx h2;have g3:=LP hx h3;simp only at h4;cases a<;>cases b
 ·exact⟨g1.1,g2.1,g3.1,h4⟩
 ·exact⟨g1.2,g2.1,g3.2,λy=>by simp[h4 y,or_assoc]⟩
 ·exact⟨g1.2,g2.2,g3.1,λy=>by simp[h4 y,or_assoc,or_comm,or_left_comm]⟩
 ·exact⟨g1.2,g2.2,g3.2,λy=>by
   simp[h4 y];constructor
   ·rintro((h|h)|h)
    ·exact .inl (.inl h)
    ·exact .inr (.inl h)
    ·exact .inl (.inr h)
   ·rintro((h|h)|(h|h))
    ·exact .inl (.inl h)
    ·exact .inr h
    ·exact .inl (.inr h)
    ·exact .inr h⟩
theorem OE(h1:S SN=s_m_New)(h2:S sG=s_m_Corpus)(h3:S uV=L6)(h4:S rp=Rz V12)(h5:S BO=FQ)(h6:S wV=PH)(h7:S bP=s_m_Next)(h8:S zF=YC):
 am jR jD S (a3 (List Int) (List Int) (List Int)) (λ_=>True) (enc (X:=Bool)) λ_ y=>y=true:=by
 rintro⟨l,m,n⟩ -;simp[jR,jD,h1,h2,h3,-fB',-eB'];refineλc hw hk hl L q hq b1 b2=>?_
 have hc:=qmx hw hk hl;have hB:wo V12 c q:=Xq hc hq (by show 3<=5;decide);have hcn:=(NR hc hq (by show 3<=5;decide)).2;have hfx:pS q.pat:=hB.fx;have hfew:=hc.few;clear h1 h2 h3 hk hl hq;intro T;refine iB (X:=List Span×List Span×List Span) [7,8] [7,8] [50,57,64] [] (λz=>∃F,SrcsOf q.pat F/\F.length<=1000/\qri F F.length z) (λz=>[(10, .list 2 (z.1.map enc)),(11, .list 2 (z.2.1.map enc)),(12, .list 2 (z.2.2.map enc))]) (λ_=>[]) [] (λ_=>rfl) (by decide) ?_ ?_
 ·simp[h5,hfx,-fB',-eB'];rintro F ⟨hF,hFl⟩ hl9;have hFl:F.length<=jL q.pat:=hFl;have hF:SrcsOf q.pat F:=by
   have hF:gw q.pat F:=hF;unfold gw at hF;rwa [if_pos ⟨hB.pat,hB.size⟩]at hF
  refine ah (X:=(Value×Value×Value) ×List Span×List Span×List Span) [7,8,9,37] [7,8] F.length (λk z=>qri F k z.2) (λz=>[(10, .own 50 z.1.1),(11, .own 57 z.1.2.1),(12, .own 64 z.1.2.2)]) (λz=>[(50, .row z.1.1 aC 2 (z.2.1.map enc)),(57, .row z.1.2.1 aC 2 (z.2.2.1.map enc)),(64, .row z.1.2.2 aC 2 (z.2.2.2.map enc))]) ((.slice none 0 0, .slice none 0 0, .slice none 0 0), [], [], []) ⟨by simp,by simp,by simp,λx=>by simp⟩ ?_ ?_ (hh:=by simp[isNilRow])
  ·rintro k ⟨⟨v1,v2,v3⟩,z1,z2,z3⟩ hk hz;obtain⟨x,hx⟩:=ed hk;obtain⟨_,hgx⟩:=qzV.1 hx;obtain⟨n1,n2,n3⟩:=qaA hz;simp only at n1 n2 n3;simp[hk,hx,hgx,h7,-fB',-eB'];intro y y0 y4;have hy:y=0\/y=1\/y=2\/y=3:=by omega
   rcases hy with rfl|rfl|rfl|rfl
   ·have hn:=Gq hx hz false false;simp[qko,-fB',-eB'];exact⟨v1,v2,v3,z1,z2,z3,hn,⟨rfl,rfl,rfl⟩, .inl ⟨rfl,rfl⟩, .inl ⟨rfl,rfl⟩, .inl ⟨rfl,rfl⟩⟩
   ·have hn:=Gq hx hz true false;simp[qko,-fB',-eB'];exact⟨by omega,by omega,λw1=>⟨by omega,by omega,λw2=>⟨w1,w2,v3,z1++ [x],z2++ [x],z3,hn,⟨rfl,rfl,rfl⟩, .inl ⟨rfl,by simp⟩, .inl ⟨rfl,by simp⟩, .inl ⟨rfl,rfl⟩⟩⟩⟩
   ·have hn:=Gq hx hz false true;simp[qko,-fB',-eB'];exact⟨by omega,by omega,λw1=>⟨by omega,by omega,λw3=>⟨w1,v2,w3,z1++ [x],z2,z3++ [x],hn,⟨rfl,rfl,rfl⟩, .inl ⟨rfl,by simp⟩, .inl ⟨rfl,rfl⟩, .inl ⟨rfl,by simp⟩⟩⟩⟩
   ·have hn:=Gq hx hz true true;simp[qko,-fB',-eB'];exact⟨by omega,by omega,λw1=>⟨by omega,by omega,λw2=>⟨by omega,by omega,λw3=>⟨w1,w2,w3,z1++ [x],z2++ [x],z3++ [x],hn,⟨rfl,rfl,rfl⟩, .inl ⟨rfl,by simp⟩, .inl ⟨rfl,by simp⟩, .inl ⟨rfl,by simp⟩⟩⟩⟩⟩
  ·rintro⟨⟨v1,v2,v3⟩,z1,z2,z3⟩ hz;simp[-fB',-eB'];exact⟨z1,z2,z3,⟨F,hF,by omega,hz⟩,fG aC (by simp[Qg,ai]),fG aC (by simp[Qg,ai]),fG aC (by simp[Qg,ai])⟩
 ·rintro⟨s,a,b⟩ ⟨F,hF,hFl,hz⟩;obtain⟨n1,n2,n3⟩:=qaA hz;obtain⟨s1,s2,s3,s4⟩:=hz;simp only at n1 n2 n3 s1 s2 s3 s4;rw[qAb]at s1 s2 s3;have hPs:QC V12 (c,q,s):=⟨hB,by show s.length<=100000;omega⟩
  have hPa:QC V12 (c,q,a):=⟨hB,by show a.length<=100000;omega⟩
  have hPb:QC V12 (c,q,b):=⟨hB,by show b.length<=100000;omega⟩
  have res:∀{z:List Span} {y:List Int×Int},z.Sublist F->qbk (c,q,z) y->y=(I4 c q z,0):=λ{z y} hz hy=>by
   obtain⟨F',hF',hy⟩:=hy;have e:F'=F:=SrcsOf.eq hF' hF;subst e;rcases hy with⟨h,_⟩|⟨_,h⟩
   ·exact h
   ·exact absurd (qfb hF.1 hz) h
  simp[h4,hPa,-fB',-eB'];intro xa e1 hq1;cases res s2 hq1;simp[h4,hPb,-fB',-eB'];intro xb e2 hq2;cases res s3 hq2;simp[h4,hPs,-fB',-eB'];intro xs e3 hq3;cases res s1 hq3;have hboth:=qda (c:=c) (q:=q) s4;have lenB:∀z,(I4 c q z).length<=c.toks.length:=λz=>qAx (List.length_filter_le _ _) (by rw[qeQ];exact qz2 _)
  have ndB:(I4 c q b).Nodup:=((vY _).imp (λh=>by omega)).filter _;have la:=lenB a;have lb:=lenB b;have ls:=lenB s;clear hq1 hq2 hq3 res hPs hPa hPb;generalize I4 c q a=xa at hboth la ⊢;generalize I4 c q b=xb at hboth lb ndB ⊢;generalize I4 c q s=xs at hboth ls ⊢;refine⟨rfl,λ_=>?_⟩;refine iB (X:=Unit) [20] [] [115] [] (λ_=>True) (λ_=>[(22, .list 1 (xs.map enc))]) (λ_=>[]) [] (λ_=>rfl) (by decide) ?_ ?_
  rotate_left
  ·rintro⟨⟩ -;have l9:xs.length<=100000:=by omega
   simp[h8,l9,h6,Dj,-fB',-eB']
  simp[-fB',-eB'];intro hla;refine ah (X:=Value×List Int) [18,20,97] [] xa.length (λk z=>z.2=(xa.take k).filter λi=>decide (i∈xb)) (λz=>[(22, .own 115 z.1)]) (λz=>[(115, .row z.1 bb 1 (z.2.map enc))]) (.slice none 0 0, []) (by simp) ?_ ?_ (hh:=by simp[isNilRow])
  ·rintro k ⟨v,w⟩ hk hw2;have hw2:w=(xa.take k).filter λi=>decide (i∈xb):=hw2
   obtain⟨i,hi⟩:=ed hk;obtain⟨_,hgi⟩:=qzV.1 hi;have hwl:w.length<=k:=by rw[hw2];exact qAx (List.length_filter_le _ _) (by rw[qAq];omega)
   have hnext:(if i∈xb then w++ [i]else w)=(xa.take (k+1)).filter λi=>decide (i∈xb):=by
    rw[au hi,qBp,<-hw2];by_cases h:i∈xb<;>simp[h]
   simp[hk,hi,hgi,-fB',-eB'];intro hlb;refine ah (X:=Value×List Int) [18,20,24,97,98,99,103] [] xb.length (λj z=>z.2=if i∈xb.take j then w++ [i]else w) (λz=>[(22, .own 115 z.1)]) (λz=>[(115, .row z.1 bb 1 (z.2.map enc))]) (v,w) (by simp) ?_ ?_
   ·rintro j ⟨v2,w2⟩ hj hw3;have hw3:w2=if i∈xb.take j then w++ [i]else w:=hw3
    obtain⟨b,hb⟩:=ed hj;obtain⟨_,hgb⟩:=qzV.1 hb;have hst:=qbx (i:=i) (w:=w) ndB hb;have hl2:w2.length<=k+1:=by
     rw[hw3];split
     ·rw[qAm];exact Nat.add_le_add hwl (qz2 1)
     ·omega
    rw[<-hw3]at hst;simp[hj,hb,hgb,-fB',-eB'];refine⟨λe=>⟨by omega,by omega,λv3=> .inl (by rw[hst,if_pos e];simp)⟩,λe=> .inl (by rw[hst,if_neg e])⟩
   ·rintro⟨v2,w2⟩ hw3;have hw3:w2=if i∈xb.take xb.length then w++ [i]else w:=hw3
    rw[qAb,hnext]at hw3;simp[-fB',-eB'];exact .inl hw3
  ·rintro⟨v,w⟩ hw2;have hw2:w=(xa.take xa.length).filter λi=>decide (i∈xb):=hw2
   rw[qAb,<-hboth]at hw2;subst hw2;simp[-fB',-eB'];exact fG bb (by simp[Qg,ai])
end Go.Gv
namespace Go.Proofs
open Go.Shelf
def Tryz.keysA_ren:Go.Shelf.Ren:=⟨λ|7=>35|10=>80|n=>n,λ|23=>67|26=>3|3=>4|28=>95|0=>0|27=>94|33=>143|4=>4|n=>n,λ|n=>n⟩
theorem Tryz.keysA:Go.Proofs.SlLaysZI.n7 Tryz.prog Tryz.keysA_ren:={
 mixed:=by kernel_rfl
 f7:=⟨Tryz.f35.name,by decide,Tryz.func35.trans (congrArg some (by kernel_rfl))⟩
 f10:=⟨Tryz.f80.name,by decide,Tryz.func80.trans (congrArg some (by kernel_rfl))⟩
 t0:=Tryz.underlying0
 a0:=Tryz.isAgg0
 z0:=Tryz.sizeOf0
 v0:=Tryz.zeroValue0
 t4:=Tryz.underlying4
 a4:=Tryz.isAgg4
 z4:=Tryz.sizeOf4
 v4:=Tryz.zeroValue4
 t23:=Tryz.underlying67
 a23:=Tryz.isAgg67
 z23:=Tryz.sizeOf67
 v23:=Tryz.zeroValue67
 t26:=Tryz.underlying3
 a26:=Tryz.isAgg3
 z26:=Tryz.sizeOf3
 v26:=Tryz.zeroValue3
 t27:=Tryz.underlying94
 a27:=Tryz.isAgg94
 z27:=Tryz.sizeOf94
 v27:=Tryz.zeroValue94
 t28:=Tryz.underlying95
 a28:=Tryz.isAgg95
 z28:=Tryz.sizeOf95
 v28:=Tryz.zeroValue95
 t33:=Tryz.underlying143
 a33:=Tryz.isAgg143
 z33:=Tryz.sizeOf143
 v33:=Tryz.zeroValue143 }
def Tryz.sortedA_ren:Go.Shelf.Ren:=⟨λ|6=>34|8=>78|9=>79|11=>145|13=>147|12=>146|23=>211|24=>212|14=>203|15=>204|16=>205|17=>206|18=>207|19=>208|20=>76|21=>209|22=>210|25=>261|26=>262|27=>263|28=>264|29=>265|30=>144|31=>294|n=>n,λ|26=>3|28=>95|24=>22|0=>0|3=>3|37=>141|48=>256|50=>258|4=>4|40=>250|39=>249|45=>90|5=>5|9=>9|51=>294|55=>298|57=>324|58=>127|33=>143|n=>n,λ|n=>n⟩
def Tryz.sortedA:Go.Proofs.SlLaysZI.n6 Tryz.prog Tryz.sortedA_ren:={
 mixed:=by kernel_rfl
 f6:=⟨Tryz.f34.name,by decide,Tryz.func34.trans (congrArg some (by kernel_rfl))⟩
 f8:=⟨Tryz.f78.name,by decide,Tryz.func78.trans (congrArg some (by kernel_rfl))⟩
 f11:=⟨Tryz.f145.name,by decide,Tryz.func145.trans (congrArg some (by kernel_rfl))⟩
 t0:=Tryz.underlying0
 a0:=Tryz.isAgg0
 z0:=Tryz.sizeOf0
 v0:=Tryz.zeroValue0
 t24:=Tryz.underlying22
 a24:=Tryz.isAgg22
 z24:=Tryz.sizeOf22
 v24:=Tryz.zeroValue22
 t26:=Tryz.underlying3
 a26:=Tryz.isAgg3
 z26:=Tryz.sizeOf3
 v26:=Tryz.zeroValue3
 t28:=Tryz.underlying95
 a28:=Tryz.isAgg95
 z28:=Tryz.sizeOf95
 v28:=Tryz.zeroValue95
 i26:=by kernel_rfl }
end Go.Proofs
namespace Go.Gv
open Go.Proofs Cod
variable {dq:Prop}
def qbO{P:Program}{f:Nat}{X Y:Type}{A:fT X}{p1 p2:X->Prop}{er:Y->D}{post:X->Y->Prop}(h1:Tri dq P f (aL A p1 er post).pt)(h2:Tri dq P f (aL A p2 er post).pt):Tri dq P f (aL A (λx=>p1 x\/p2 x) er post).pt:=λO tp w vs ds H d K a b c e g h=>by
 rw[nQ]at h;cases hd:A.dec ds with
 |none=>rw[hd]at h;exact h.elim
 | some x=>
   rw[hd]at h;rcases h.1 with hp|hp
   ·exact h1 O tp w vs ds H d K a b c e g (by rw[nQ,hd];exact⟨hp,h.2⟩)
   ·exact h2 O tp w vs ds H d K a b c e g (by rw[nQ,hd];exact⟨hp,h.2⟩)
def qdG:TQ dq fm (FT V12):=qbO YL HL
def Fz:TQ dq ko Vb:=
 ac (ag (aa tj ae)) En (Fj rfl)
def wj:∀n,TQ dq bF (FX n)
 | 0=>bC λx h=>qnp h
 | n+1=>
   have h1:TQ dq eL (YD Cond (Jh [(bF,FX n)])):=ac (ag (aa (wj n) ae)) mH (Pm);have h2:TQ dq bE (qbX Cond (Jh [(bF,FX n)])):=ac (ag (aa h1 ae)) ki (Pn rfl)
   ac (ag (aa h2 ae)) Gk (HH (S0:=(Jh [(bF,FX n)])) n rfl rfl)
def I0:TQ dq bF U5:=dw (λn=>wj n) (fb (λx h=>h))
def vD:∀n,TQ dq dA (Va n)
 | 0=>bC λx h=>qnp h.1
 |n+1=>bY (ag (aa I0 (aa (vD n) ae))) Em (λ_=>qz0 rfl) (Fi n rfl rfl)
def G5:TQ dq dA qaa:=dw (λn=>vD n) (fb (λx h=>h))
def tZ:TQ dq iV qeE:=
 ac (ag (aa Fz (aa G5 (aa lC (aa (vE 21) ae))))) C5 (qdB rfl rfl rfl rfl)
def Lz:TQ dq uS mY:=
 ac (ag (aa wl (aa G9 ae))) Kn (Lr rfl rfl)
def AF:TQ dq jG Z3:=
 ac (ag ae) zg (Lu)
def ws:TQ dq gD Z8:=
 ac (ag (aa AF ae)) vO (Fs rfl)
def J8:TQ dq sD Am:=
 ac (ag (aa xL (aa Lz (aa ws ae)))) Ib (JW rfl rfl rfl)
def LB:TQ dq uX qeF:=
 ac (ag (aa AC ae)) Kt (X3 rfl)
def DX:TQ dq nl qem:=
 ac (ag ae) CX (qlq)
def vL:TQ dq fM qeL:=
 ac (ag (aa LB (aa DX ae))) uF (qly rfl rfl)
def J4:TQ dq sI Ao:=
 ac (ag ae) Ii (J1)
def A6:TQ dq pi ud:=
 ac (ag (aa wt (aa tY ae))) Km (JV rfl rfl)
def Up:TQ dq qC (qaJ iU):=qdO Tryz.keysA rfl (iu Tryz.func35 (by kernel_rfl) rfl)
def qlS(m:Nat):AnyZI.SortsIn Tryz.prog Tryz.sortedA_ren Go.Fence.wide m:=
 ⟨λblk off cap ss W hH hblk hsz=>callsIn_wide.2 (AnyG.slices_Sort_int Tryz.sortInt blk off cap ss W hH hblk hsz),λp cap W=>callsIn_wide.2 (AnyG.slices_Sort_int_none Tryz.sortInt p cap W)⟩
def J5(hdq:¬dq):TQ dq td (Rq iU):=Yj (fk:=qC) hdq Tryz.sortedA Tryz.keysA rfl (iu Tryz.func34 (by kernel_rfl) rfl) rfl qlS (enters_of Tryz.func79 (by kernel_rfl) rfl) (enters_of Tryz.func80 (by kernel_rfl) rfl)
def Di(hdq:¬dq):TQ dq rp (Rz V12):=
 ac (ag (aa qdG (aa J8 (aa A6 (aa tZ (aa vL (aa J4 (aa Up (aa (J5 hdq) ae))))))))) MF (Oz rfl rfl rfl rfl rfl rfl rfl rfl)
def HN:TQ dq qE U2:=
 ac (ag (aa tZ ae)) Gi (HG rfl)
def Fy:TQ dq pm (PJ V12):=
 ac (ag (aa qdG (aa A6 (aa HN ae)))) Ej (Ff rfl rfl rfl)
def Uo:TQ dq BY (Z0 V12):=
 ac (ag (aa Fy (aa xL ae))) Sh (TW rfl rfl)
def Lw:TQ dq zF YC:=
 ac (ag ae) VB (XU)
def qbK(hdq:¬dq):TQ dq wV PH:=
 ac (ag (aa qbP (aa (Di hdq) (aa Uo (aa Lw (aa X9 ae)))))) MJ (qbD rfl rfl rfl rfl rfl qki)
def UF(hdq:¬dq):TQ dq te qpj:=
 ac (ag (aa qiB (aa Kb (aa LA (aa (Di hdq) (aa Uj (aa (qbK hdq) (aa cP (aa Lw ae))))))))) AL (OE rfl rfl rfl rfl rfl rfl rfl rfl)
end Go.Gv
