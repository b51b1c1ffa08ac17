/- A part of the framework and of the walks: T53. -/
import Derived.Test.YtfbleenmepoodaaGreatDoorGa39
set_option linter.unusedSimpArgs false
set_option linter.unusedVariables false
set_option linter.unusedSectionVars false
set_option linter.defProp false
namespace Go.Gv
variable {dq:Prop}
namespace X
def Td(S:Nat->Spc)(cf:CF):Prop:=∀f args h r h',cf f args h=some (r,h')->∀ (ρ:VL) (ds:List D) (H:aa) (K:D->aa->Prop) (d:Nat),ρ.length=h.n->RepL ρ args ds->HRep ρ h.he H->
 (∀ (ρ':VL) (r':D) (H':aa),ρ <+:ρ'->ρ'.length=h'.n->Rep ρ' r r'->HRep ρ' h'.he H'->K r' H')->(S f).pt d ds H K
def Vv(S:Nat->Spc)(pf:PF):Prop:=∀f args r,pf f args=some r->∀ (ρ:VL) (ds:List D),RepL ρ args ds->∃pc,S f= .pure pc/\pc.pre ds/\∀r',pc.post ds r'->Rep ρ r r'
section
variable {ρ:VL}{l:SL}{σ:Sg}{H:aa}{S:Nat->Spc}{cf:CF}{pf:PF}
def SRep.up{ρ':VL}(hp:ρ <+:ρ')(h:SRep ρ (sg l) σ){dst:Option Nat}{d d':D}(hd:Rep ρ' d d'):SRep ρ' (sg (uO l dst d)) (du σ dst d'):=λt=>by
 cases dst with
 | none=>exact(h t).mono hp
 | some s=>
   have ht:=h t;simp only[uO,du,upd];unfold sg at ht ⊢;split
   ·rename_i d1 hg;rcases Tr.get_set hg with⟨rfl,rfl⟩|⟨e,hg⟩
    ·rw[if_pos rfl];exact hd
    ·rw[if_neg e];rw[hg]at ht;exact ht.mono hp
   ·exact .any _
theorem Nq{g:Option (Nat×Bool)}{b:Bool}(h:qdP g l=some b)(hσ:SRep ρ (sg l) σ){yes no:Sg->Prop}(hy:b=true->∀σ',SRep ρ (sg l) σ'->yes σ')(hn:b=false->∀σ',SRep ρ (sg l) σ'->no σ'):iG g σ yes no:=by
 cases g with
 | none=>cases h;exact hy rfl σ hσ
 | some p=>
   obtain⟨s,b0⟩:=p;simp only[qdP]at h;have hs:=hσ s;unfold iG;dsimp only;have same:∀t:Bool,sg l s= .v (.bool t)->SRep ρ (sg l) (upd σ s (.v (.bool t))):=λt e r=>by
    unfold upd;split
    ·rename_i er;subst er;rw[e];exact .v _
    ·exact hσ r
   generalize hq:sg l s=q at h hs;generalize σ s=q' at hs;cases hs <;> try (cases h;done)
   ·cases h;exact hn rfl σ hσ
   ·rename_i v;cases v <;> try (cases h;done)
    rename_i t;simp only[qjO]at h;refine⟨λe=>hy (by rw[<-h,e];simp) _ (same b0 (by rw[hq,e])),λe=>hn (by rw[<-h,e];cases b0 <;> rfl) _ (same (!b0) (by rw[hq,e]))⟩
def Vy(hσ:SRep ρ (sg l) σ){h h':XH}(hH:HRep ρ h.he H)(hn:ρ.length=h.n){c:COp}{dst:Option Nat}{d:D}(hx:xW c dst (sg l) h=some (d,h')){K:D->aa->Prop}
 (hK:∀ (ρ':VL) (d':D) (H':aa),ρ <+:ρ'->ρ'.length=h'.n->Rep ρ' d d'->HRep ρ' h'.he H'->K d' H'):aP c dst σ H K:=by
 unfold xW at hx;split at hx
 ·rename_i d0 he' n' hw;cases hx;exact XE hσ hH hn hw hK
 ·cases hx
def B4(hcf:Td S cf){h h':XH}(hH:HRep ρ h.he H)(hn:ρ.length=h.n){f:Nat}{args ds:List D}{d:D}(hx:Iq h (cf f args ⟨h.he, [], [],h.n⟩)=some (d,h'))(ha:RepL ρ args ds){K:D->aa->Prop}{t:Nat}
 (hK:∀ (ρ':VL) (d':D) (H':aa),ρ <+:ρ'->ρ'.length=h'.n->Rep ρ' d d'->HRep ρ' h'.he H'->K d' H'):(S f).pt t ds H K:=by
 unfold Iq at hx;split at hx
 ·rename_i d0 h1 hc;cases hx;exact hcf f args _ _ h1 hc ρ ds H K t hn ha hH hK
 ·cases hx
theorem U2(hcf:Td S cf)(hσ:SRep ρ (sg l) σ){h h':XH}(hH:HRep ρ h.he H)(hn:ρ.length=h.n){c:COp}{dst:Option Nat}{d:D}(hx:U3 cf c dst (sg l) h=some (d,h')){K:D->aa->Prop}
 (hK:∀ (ρ':VL) (d':D) (H':aa),ρ <+:ρ'->ρ'.length=h'.n->Rep ρ' d d'->HRep ρ' h'.he H'->K d' H'):aA S c dst σ H K:=by
 cases c
 case call f args=>exact B4 hcf hH hn hx (rG hσ args) hK
 case callb r f args=>exact B4 hcf hH hn hx (rG hσ args) hK
 case callv f args=>
  simp only[U3]at hx;simp only[aA];have hf:=aG hσ f;generalize ev (sg l) f=a at hx hf;generalize ev σ f=b at hf;cases hf <;> try (cases hx;done)
  rename_i g cs ds hl hc;exact B4 hcf hH hn hx ((rG hσ args).append ⟨hl,hc⟩) hK
 all_goals (simp only[U3]at hx;exact Vy hσ hH hn hx hK)
theorem HF(hcf:Td S cf):∀ (ls:List CI) (ρ:VL) (s s':XS) (σ:Sg) (H:aa),qdY cf ls s=some s'->zd ρ s σ H->∀K:Sg->aa->Prop,(∀ (ρ':VL) (σ':Sg) (H':aa),ρ <+:ρ'->zd ρ' s' σ' H'->K σ' H')->xH S ls σ H K
 | [],ρ,s,s',σ,H,h,hr,K,hK=>by cases h;exact hK ρ σ H (List.prefix_refl ρ) hr
 | ci::r,ρ,s,s',σ,H,h,hr,K,hK=>by
   have h:VH cf ci s (qdY cf r)=some s':=h;unfold VH at h;split at h
   ·cases h
   ·rename_i dst g c;simp only[xH];split at h
    ·rename_i hg;split at h
     ·rename_i d h1 ho;refine Nq hg hr.2.1 (λ_ σ' hσ'=>?_) (λe=>by cases e);refine U2 hcf hσ' hr.2.2 hr.1 ho λρ1 d' H1 hp hn1 hd hH1=>?_
      exact HF hcf r ρ1 _ s' _ H1 h ⟨hn1,SRep.up hp hσ' hd,hH1⟩ K λρ' σ' H' hp'=>hK ρ' σ' H' (hp.trans hp')
     ·cases h
    ·rename_i hg;refine Nq hg hr.2.1 (λe=>by cases e) (λ_ σ' hσ'=>?_);exact HF hcf r ρ _ s' _ H h ⟨hr.1,SRep.up (List.prefix_refl ρ) hσ' .undef,hr.2.2⟩ K hK
    ·cases h
def Yo{c:COp}(h:qaE c=true){dst:Option Nat}{σ:Sg}{Hr H:aa}{K:D->aa->Prop}(hv:aP c dst σ H K):au S c dst σ Hr H K:=by
 cases c <;> try (cases h;done)
 all_goals first
  | exact hv
  | (rename_i im x;cases im <;> first|exact hv|(cases h;done))
theorem Rf:∀ (ls:List CI) {hr:HE} {Hr:aa},HRep ρ hr Hr->HRep ρ (mk ls hr) (aU ls Hr)
 | [],hr,Hr,h=>h
 | .frz _ _::_,hr,Hr,h=>h
 | .op d g c::l,hr,Hr,h=>λi r hi=>by
   have ih:=Rf l h;have hi:(qfR (c.wid d) (mk l hr)).get i=some r:=hi;unfold qfR at hi;simp only[aU];split at hi
   ·rename_i t e;split at hi
    ·cases hi
    ·rename_i ht;obtain⟨hne,hi⟩:=Tr.get_del hi;have hnw:¬vt (CI.op d g c).wid i:=by
      show ¬vt (c.wid d) i;rw[e];intro hw;have hw:Hn i=Hn t:=hw;have ht0:Hn t≠0:=λe0=>ht (by rw[e0];rfl)
      unfold Hn at hw ht0;split at ht0
      ·exact ht0 rfl
      ·rename_i k1;rw[if_neg k1]at hw;split at hw
       ·exact ht0 hw.symm
       ·exact hne hw
     rw[if_neg hnw];exact ih i r hi
   ·rename_i e;have hnw:¬vt (CI.op d g c).wid i:=by
     show ¬vt (c.wid d) i;rw[e];exactλh=>h
    rw[if_neg hnw];exact ih i r hi
theorem HD(hpf:Vv S pf):∀ (ls:List CI) (ρ:VL) (hr:HE) (Hr:aa) (s s':XS) (σ:Sg) (H:aa),qdX pf ls hr s=some s'->HRep ρ hr Hr->zd ρ s σ H->∀K:Sg->aa->Prop,(∀ (ρ':VL) (σ':Sg) (H':aa),ρ <+:ρ'->zd ρ' s' σ' H'->K σ' H')->gh S ls σ Hr H K
 | [],ρ,hr,Hr,s,s',σ,H,h,hHr,hx,K,hK=>by cases h;exact hK ρ σ H (List.prefix_refl ρ) hx
 | ci::r,ρ,hr,Hr,s,s',σ,H,h,hHr,hx,K,hK=>by
   have h:qfa pf ci r hr s (qdX pf r)=some s':=h;cases ci with
   | frz a b=>exact HD hpf r ρ _ _ s s' σ H h (Rf r hHr) hx K hK
   | op dst g c=>
     simp only[qfa]at h;simp only[gh];split at h
     ·rename_i hg;refine Nq hg hx.2.1 (λ_ σ' hσ'=>?_) (λe=>by cases e);have go:∀ (ρ1:VL) (d d':D) (h1:XH) (H1:aa),qdX pf r hr ⟨uO s.l dst d,h1⟩=some s'->ρ <+:ρ1->ρ1.length=h1.n->Rep ρ1 d d'->HRep ρ1 h1.he H1->gh S r (du σ' dst d') Hr H1 K:=λρ1 d d' h1 H1 h hp hn1 hd hH1=>
       HD hpf r ρ1 hr Hr _ s' _ H1 h (hHr.mono hp) ⟨hn1,SRep.up hp hσ' hd,hH1⟩ K λρ' σ' H' hp'=>hK ρ' σ' H' (hp.trans hp')
      split at h
      ·rename_i f args _h;split at h
       ·rename_i d hd;obtain⟨pc,h1,h2,h3⟩:=hpf _ _ _ hd ρ _ (rG hσ' args);simp only[au,h1,LP];exact⟨h2,λr' hr'=>go ρ d r' s.h H h (List.prefix_refl ρ) hx.1 (h3 r' hr') hx.2.2⟩
       ·cases h
      ·split at h
       ·rename_i hal;split at h
        ·rename_i d h1 hw;exact Yo hal (Vy hσ' hx.2.2 hx.1 hw λρ1 d' H1 hp hn1 hd hH1=>go ρ1 d d' h1 H1 h hp hn1 hd hH1)
        ·cases h
       ·split at h
        ·rename_i hrd;split at h
         ·rename_i d hx1;exact(eX hrd).2 (An hσ' hHr hx1 λd' hd=>go ρ d d' s.h H h (List.prefix_refl ρ) hx.1 hd hx.2.2)
         ·cases h
        ·cases h
     ·rename_i hg;refine Nq hg hx.2.1 (λe=>by cases e) (λ_ σ' hσ'=>?_);exact HD hpf r ρ hr Hr _ s' _ H h hHr ⟨hx.1,SRep.up (List.prefix_refl ρ) hσ' .undef,hx.2.2⟩ K hK
     ·cases h
end
def wN:CC->CC
 | .seq a b=> .seq (wN a) (.cut 0 (wN b))
 | .ite c a b=> .ite c (wN a) (wN b)
 | .block i b=> .block i (wN b)
 | .loop k b=> .loop k (wN b)
 | c=>c
noncomputable def CO(cf:CF)(pf:PF)(ih:CC->XS->Option (Ex×XS))(c:CC)(s:XS):Option (Ex×XS):=match c with
 | .skip=>some (.norm,s)
 | .reg l=>match qdY cf l s with
   | some s'=>some (.norm,s')
   | none=>none
 | .regd p t=>match qdX pf p (mk p s.h.he) s with
   | some s1=>match qdY cf t s1 with
     | some s'=>some (.norm,s')
     | none=>none
   | none=>none
 | .seq a b=>match ih a s with
   | some (.norm,s1)=>match Uf s1 with
     | some s2=>ih b s2
     | none=>none
   | r=>r
 | .ite c a b=>match ev (sg s.l) c with
   | .v (.bool true)=>ih a s
   | .v (.bool false)=>ih b s
   | _=>none
 | .block i b=>match ih b s with
   | some (.ex j,s1)=>match Nat.beq j i with
     | true=>some (.norm,s1)
     | false=>some (.ex j,s1)
   | r=>r
 | .loop key b=>match ih b s with
   | some (.norm,s1)=>match Uf s1 with
     | some s2=>ih (.loop key b) s2
     | none=>none
   | r=>r
 | .exit i=>some (.ex i,s)
 | .ret=>some (.ret,s)
 | _=>none
noncomputable def run(cf:CF)(pf:PF)(k:Nat):CC->XS->Option (Ex×XS):=Nat.rec (motive:=λ_=>CC->XS->Option (Ex×XS)) (λ_ _=>none) (λ_ ih c s=>CO cf pf ih c s) k
section
variable {S:Nat->Spc}{cf:CF}{pf:PF}
theorem WO(hcf:Td S cf)(hpf:Vv S pf):∀ (k:Nat) (c:CC) (s:XS) (e:Ex) (s':XS),run cf pf k c s=some (e,s')->∀ (ρ:VL) (σ:Sg) (H:aa),zd ρ s σ H->∀K:Ex->Sg->aa->Prop,
 (∀ (ρ':VL) (σ':Sg) (H':aa),ρ <+:ρ'->zd ρ' s' σ' H'->K e σ' H')->vc S (wN c) K σ H:=by
 intro k
 induction k using Nat.strongRecOn with
 | _ k IH=>
 intro c s e s' h ρ σ H hr K hK;cases k with
 | zero=>cases h
 | succ k=>
 have h:CO cf pf (run cf pf k) c s=some (e,s'):=h;cases c with
 | skip=>cases h;exact hK ρ σ H (List.prefix_refl ρ) hr
 | reg l=>
   simp only[CO]at h;split at h
   ·rename_i s1 hl;cases h;exact HF hcf l ρ s s' σ H hl hr _ hK
   ·cases h
 | regd p t=>
   simp only[CO]at h;split at h
   ·rename_i s1 hp1;split at h
    ·rename_i s2 hl;cases h;refine HD hpf p ρ _ _ s s1 σ H hp1 (Rf p hr.2.2) hr _ λρ1 σ1 H1 hp h1=>?_
     exact HF hcf t ρ1 s1 s' σ1 H1 hl h1 _ λρ' σ' H' hp'=>hK ρ' σ' H' (hp.trans hp')
    ·cases h
   ·cases h
 | seq a b=>
   simp only[CO]at h;simp only[wN,vc];split at h
   ·rename_i s1 h1;split at h
    ·rename_i s2 h2;refine IH k (Nat.lt_succ_self k) a s _ _ h1 ρ σ H hr _ λρ1 σ1 H1 hp hr1=>?_
     obtain⟨σ2,H2,hw,hr2⟩:=M6 h2 hr1;exact⟨σ2,H2,hw,IH k (Nat.lt_succ_self k) b s2 e s' h ρ1 σ2 H2 hr2 K λρ' σ' H' hp'=>hK ρ' σ' H' (hp.trans hp')⟩
    ·cases h
   ·rename_i hne;refine IH k (Nat.lt_succ_self k) a s e s' h ρ σ H hr _ λρ1 σ1 H1 hp hr1=>?_
    cases e with
    | norm=>exact absurd h (hne s')
    | ex i=>exact hK ρ1 σ1 H1 hp hr1
    | ret=>exact hK ρ1 σ1 H1 hp hr1
 | ite c a b=>
   simp only[CO]at h;simp only[wN,vc];have hc:=aG hr.2.1 c;generalize ev (sg s.l) c=q at h hc;generalize ev σ c=q' at hc;cases hc <;> try (cases h;done)
   rename_i v;cases v <;> try (cases h;done)
   rename_i t;cases t
   ·exact⟨λe=>(by cases e),λ_=>IH k (Nat.lt_succ_self k) b s e s' h ρ σ H hr K hK⟩
   ·exact⟨λ_=>IH k (Nat.lt_succ_self k) a s e s' h ρ σ H hr K hK,λe=>(by cases e)⟩
 | block i b=>
   simp only[CO]at h;simp only[wN,vc];split at h
   ·rename_i j s1 h1;refine IH k (Nat.lt_succ_self k) b s _ _ h1 ρ σ H hr _ λρ1 σ1 H1 hp hr1=>?_
    dsimp only;split at h
    ·rename_i e1;cases h;rw[if_pos (Nat.eq_of_beq_eq_true e1)];exact hK ρ1 σ1 H1 hp hr1
    ·rename_i e1;cases h;rw[if_neg (Nat.ne_of_beq_eq_false e1)];exact hK ρ1 σ1 H1 hp hr1
   ·rename_i hne;refine IH k (Nat.lt_succ_self k) b s e s' h ρ σ H hr _ λρ1 σ1 H1 hp hr1=>?_
    cases e with
    | norm=>exact hK ρ1 σ1 H1 hp hr1
    | ex i=>exact absurd h (hne i s')
    | ret=>exact hK ρ1 σ1 H1 hp hr1
 | loop key b=>
   simp only[wN,vc];have en:∀j s,run cf pf j (.loop key b) s=some (e,s')->e≠ .norm:=by
    intro j
    induction j with
    | zero=>intro s h;cases h
    | succ j ih=>
      intro s h;have h:CO cf pf (run cf pf j) (.loop key b) s=some (e,s'):=h;simp only[CO]at h;split at h
      ·split at h
       ·exact ih _ h
       ·cases h
      ·rename_i hne;intro e1;subst e1;exact hne s' h
   refine⟨⟨Nat×Sg×aa,λx=>x.1<=k+1/\∃ (s1:XS) (ρ1:VL),ρ <+:ρ1/\zd ρ1 s1 x.2.1 x.2.2/\run cf pf x.1 (.loop key b) s1=some (e,s'),λx=>x.2.1,λx=>x.2.2,λx=>x.1⟩,⟨(k+1,σ,H),⟨qjL _,s,ρ,List.prefix_refl ρ,hr,h⟩,λ_ _ _ h=>h⟩,?_⟩;rintro⟨j,σ1,H1⟩ ⟨hj,s1,ρ1,hp1,hr1,h1⟩;dsimp only at hj h1 hr1 ⊢;cases j with
   | zero=>cases h1
   | succ j=>
     have h1:CO cf pf (run cf pf j) (.loop key b) s1=some (e,s'):=h1;simp only[CO]at h1;split at h1
     ·rename_i s2 h2;split at h1
      ·rename_i s3 h3;refine IH j (by omega) b s1 _ _ h2 ρ1 σ1 H1 hr1 _ λρ2 σ2 H2 hp2 hr2=>?_
       obtain⟨σ3,H3,hw,hr3⟩:=M6 h3 hr2;exact⟨(j,σ3,H3),⟨by omega,s3,ρ2,hp1.trans hp2,hr3,h1⟩,hw,Nat.lt_succ_self j⟩
      ·cases h1
     ·rename_i hne;refine IH j (by omega) b s1 e s' h1 ρ1 σ1 H1 hr1 _ λρ2 σ2 H2 hp2 hr2=>?_
      have e2:=en (k+1) s h;cases e with
      | norm=>exact absurd rfl e2
      | ex i=>exact hK ρ2 σ2 H2 (hp1.trans hp2) hr2
      | ret=>exact hK ρ2 σ2 H2 (hp1.trans hp2) hr2
 | exit i=>cases h;exact hK ρ σ H (List.prefix_refl ρ) hr
 | ret=>cases h;exact hK ρ σ H (List.prefix_refl ρ) hr
 | cut _ _=>cases h
 | keep _ _ _=>cases h
end
noncomputable def Ox(σ:Sg)(he:HE):List ai->Option (List D)
 | []=>some []
 | .tmp t::r=>(Ox σ he r).map λl=>σ t::l
 | .cell t agg sz::r=>match bU (.load agg sz (.tmp t)) σ he with
   | some d=>(Ox σ he r).map λl=>d::l
   | none=>none
def GF{ρ:VL}{σe σ:Sg}{he:HE}{H:aa}(hσ:SRep ρ σe σ)(hH:HRep ρ he H):∀ (rs:List ai) (ls:List D),Ox σe he rs=some ls->∀K:List D->Prop,(∀ds,RepL ρ ls ds->K ds)->rb rs σ H K
 | [],ls,h,K,hK=>by cases h;exact hK [] .nil
 | .tmp t::r,ls,h,K,hK=>by
   simp only[Ox,qjH]at h;obtain⟨l,h,rfl⟩:=h;exact GF hσ hH r l h _ λds hd=>hK _ (.cons (hσ t) hd)
 | .cell t agg sz::r,ls,h,K,hK=>by
   simp only[Ox]at h;split at h
   ·rename_i d hd;simp only[qjH]at h;obtain⟨l,h,rfl⟩:=h;exact An hσ hH hd λd' hd'=>GF hσ hH r l h _ λds hds=>hK _ (.cons hd' hds)
   ·cases h
noncomputable def qal:Nat->List D->SL->SL
 | _, [],l=>l
 | i,d::r,l=>qal (i+1) r (l.set i d)
def Nc{ρ:VL} :∀ (cs:List D) (i:Nat) (l:SL) (σ:Sg),SRep ρ (sg l) σ->(∀k c,cs[k]? =some c->Rep ρ c (σ (i+k)))->SRep ρ (sg (qal i cs l)) σ
 | [],i,l,σ,h,_=>h
 | c::cs,i,l,σ,h,hc=>by
   refine Nc cs (i+1) _ σ (λt=>?_) (λk c' hk=>by have:=hc (k+1) c' (by simpa using hk);rw[show i+ (k+1)=i+1+k by omega]at this;exact this);have ht:=h t;unfold sg at ht ⊢;split
   ·rename_i d1 hg;rcases Tr.get_set hg with⟨rfl,rfl⟩|⟨e,hg⟩
    ·exact hc 0 _ rfl
    ·rw[hg]at ht;exact ht
   ·exact .any _
noncomputable def qhS:D->Bool
 | .v _=>true
 | .undef=>true
 | _=>false
noncomputable def qhR:D->Bool
 | .agg cs=>la (λd=>!qhS d) cs==false
 | d=>qhS d
noncomputable def qfE:D->Bool
 | .tup cs=>la (λd=>!qhR d) cs==false
 | d=>qhR d
noncomputable def XV(l:List Nat)(he:HE):HE:=List.rec (motive:=λ_=>HE->HE) (λh=>h) (λi _ ih h=>ih (h.del i)) l he
def DB:∀ (l:List Nat) (he:HE) (i:Nat) (r:Res),(XV l he).get i=some r->he.get i=some r
 | [],he,i,r,h=>h
 | j::l,he,i,r,h=>(Tr.get_del (DB l (he.del j) i r h)).2
noncomputable def qbC(d:D)(h:XH):XH:=Bool.rec h ⟨XV h.nw (XV h.sm h.he), [], [],h.n⟩ (qfE d)
def qbB(d:D)(h:XH):(qbC d h).n=h.n:=by
 unfold qbC;cases qfE d <;> rfl
def NA{ρ:VL}{d:D}{h:XH}{H:aa}(hH:HRep ρ h.he H):HRep ρ (qbC d h).he H:=λi r hi=>by
 unfold qbC at hi;cases hp:qfE d with
 | false=>rw[hp]at hi;exact hH i r hi
 | true=>rw[hp]at hi;exact hH i r (DB _ _ _ _ (DB _ _ _ _ hi))
structure Fn where
 cc:CC
 rs:List ai
 N:Nat
noncomputable def qdv(l:List (Nat×Fn))(k:Nat):Option Fn:=List.rec (motive:=λ_=>Option Fn) none (λp _ ih=>Bool.rec ih (some p.2) (Nat.beq p.1 k)) l
def He:∀ (l:List (Nat×Fn)) (k:Nat) (fn:Fn),qdv l k=some fn->(k,fn) ∈l
 | [],k,fn,h=>by cases h
 | p::l,k,fn,h=>by
   have h:Bool.rec (motive:=λ_=>Option Fn) (qdv l k) (some p.2) (Nat.beq p.1 k)=some fn:=h;cases e:Nat.beq p.1 k with
   | true=>
     rw[e]at h;cases h;rw[<-Nat.eq_of_beq_eq_true e];simp
   | false=>
     rw[e]at h;exact qlm _ (He l k fn h)
noncomputable def rv(fn:Fn)(s:XS):Option (D×XH):=match Ox (sg s.l) s.h.he fn.rs with
 | some ds=>some (cz ds,qbC (cz ds) s.h)
 | none=>none
noncomputable def ZV(Δ:Nat->Option Fn)(pf:PF)(k:Nat)(cf:CF):CF:=λf args h=>match Δ f with
 | some fn=>match Nat.ble args.length fn.N with
   | true=>match run cf pf k fn.cc ⟨qal 0 args .e,h⟩with
     | some (.ex _,_)=>none
     | some (_,s)=>rv fn s
     | none=>none
   | false=>none
 | none=>match pf f args with
   | some d=>some (d,h)
   | none=>none
noncomputable def En(Δ:Nat->Option Fn)(pf:PF)(k:Nat):CF:=Nat.rec (motive:=λ_=>CF) (λ_ _ _=>none) (λk ih=>ZV Δ pf k ih) k
def RY(cf:CF)(f:Nat):PT:=λd ds H K=>∃ (args:List D) (h:XH) (r:D) (h':XH) (ρ:VL),cf f args h=some (r,h')/\ρ.length=h.n/\RepL ρ args ds/\HRep ρ h.he H/\
 ((∀ (ρ':VL) (r':D) (H':aa),ρ <+:ρ'->ρ'.length=h'.n->Rep ρ' r r'->HRep ρ' h'.he H'->K r' H')\/(h.he= .e/\∀ (ρ':VL) (r':D) (H':aa),Rep ρ' r r'->HRep ρ' h'.he H'->∃q,FrzTo H' r' q/\K q H))
def UZ(cf:CF)(f:Nat):uo (RY cf f):=λd ds H K K' hk ⟨args,h,r,h',ρ,h1,h2,h3,h4,h5⟩=>⟨args,h,r,h',ρ,h1,h2,h3,h4,h5.imp (λh5 ρ' r' H' a b c d=>hk _ _ (h5 ρ' r' H' a b c d)) λh5=>⟨h5.1,λρ' r' H' a b=>(h5.2 ρ' r' H' a b).imp λq hq=>⟨hq.1,hk _ _ hq.2⟩⟩⟩
def exC(cf:CF)(f:Nat):Spc:= .gen _ (UZ cf f)
def GH{ρ:VL}{cs ds:List D}(h:RepL ρ cs ds):Rep ρ (cz cs) (cz ds):=by
 match cs,ds,h with
 | [], [],h=>exact .tup _ _ h.1 h.2
 | [c], [d],h=>exact h.2 0 c d rfl rfl
 | _::_::_,_::_::_,h=>exact .tup _ _ h.1 h.2
 | [],_::_,h=>have:=h.1;simp at this
 | _::_, [],h=>have:=h.1;simp at this
 | [_],_::_::_,h=>have:=h.1;simp at this
 | _::_::_, [_],h=>have:=h.1;simp at this
noncomputable def Pe(Δ:Nat->Option Fn)(pf:PF)(T:Nat->Spc)(k:Nat):Nat->Spc:=λf=>match Δ f with
 | some _=>exC (En Δ pf k) f
 | none=>T f
theorem XF{Δ:Nat->Option Fn}{pf:PF}{T:Nat->Spc}{k:Nat}(hpf:Vv (Pe Δ pf T k) pf):Td (Pe Δ pf T k) (En Δ pf k):=λf args h r h' hx ρ ds H K d hn ha hH hK=>by
 have hd:(∃fn,Δ f=some fn)\/pf f args=some r/\h'=h:=by
  cases k with
  | zero=>cases hx
  | succ k=>
    have hx:ZV Δ pf k (En Δ pf k) f args h=some (r,h'):=hx;unfold ZV at hx;split at hx
    ·rename_i fn e;exact .inl ⟨fn,e⟩
    ·split at hx
     ·rename_i d' e;cases hx;exact .inr ⟨e,rfl⟩
     ·cases hx
 rcases hd with⟨fn,e⟩|⟨e,rfl⟩
 ·show(Pe Δ pf T k f).pt d ds H K;unfold Pe;rw[e];exact⟨args,h,r,h',ρ,hx,hn,ha,hH, .inl hK⟩
 ·obtain⟨pc,e1,h1,h2⟩:=hpf f args r e ρ ds ha;rw[e1];exact⟨h1,λr' hr'=>hK ρ r' H (List.prefix_refl ρ) hn (h2 r' hr') hH⟩
theorem MP{P:Program}{Δ:Nat->Option Fn}{pf:PF}{T:Nat->Spc}(hT:∀f,Tri dq P f (T f).pt)(hpf:∀k,Vv (Pe Δ pf T k) pf)(hΔ:∀f fn,Δ f=some fn->∃im,aq P f im (wN fn.cc) fn.rs fn.N):∀k f,Tri dq P f (Pe Δ pf T k f).pt:=by
 intro k
 induction k with
 | zero=>
   intro f;unfold Pe;split
   ·rename_i fn e;rintro O tp w vs ds H d K - - - - - ⟨args,h,r,h',ρ,hx,_⟩;cases hx
   ·exact hT f
 | succ k ih=>
   intro f;unfold Pe;split
   ·rename_i fn e;obtain⟨im,rp,enter,fun_,code,h1,h2,h3,h4,h5⟩:=hΔ f fn e;refine mZ ih rp h1 h2 enter h3 h4 h5 ?_;rintro ds H d K ⟨args,h,r,h',ρ,hx,hn,ha,hH,hK⟩;have hx:ZV Δ pf k (En Δ pf k) f args h=some (r,h'):=hx;unfold ZV at hx;rw[e]at hx;dsimp only at hx;split at hx
    ·rename_i hN;have hlen:ds.length<=fn.N:=by rw[<-ha.1];exact qjz hN
     refine⟨hlen,ds,λi=>if(h.he.get i).isSome then H i else none,id,⟨rfl,λk d d' h1 h2=>by rw[h1]at h2;cases h2;exact .same _⟩,λi r hi=>?_,λi j r s _ _ h=>h,?_⟩
     ·dsimp only at hi;split at hi
      ·exact hi
      ·cases hi
     have hH0:HRep ρ h.he (λi=>if(h.he.get i).isSome then H i else none):=λi r hi=>by
      obtain⟨r',h1,h2⟩:=hH i r hi;exact⟨r',by dsimp only;rw[hi];simpa using h1,h2⟩
     have hS0:SRep ρ (sg (qal 0 args .e)) (cR ds):=Nc args 0 .e _ (λt=> .any _) λk c hk=>by
      obtain⟨d,h1,h2⟩:=ha.get hk;simp only[cR,qki,h1,qj7];exact h2
     have main:∀ (e:Ex) (s:XS),run (En Δ pf k) pf k fn.cc ⟨qal 0 args .e,h⟩=some (e,s)->(e= .norm\/e= .ret)->rv fn s=some (r,h')->
      ∃Q:D->aa->Prop,vc (Pe Δ pf T k) (wN fn.cc) (ra fn.rs Q) (cR ds) (λi=>if(h.he.get i).isSome then H i else none)/\∀r H',Q r H'->∃ (r':D) (Hf Hc:aa) (κ:Nat->Option Nat),FrzTo Hf r r'/\(∀j q,Hf j=some q->H' j=some q/\∀i,κ i≠some j)/\K r' Hc/\
       (∀i s,Hc i=some s->match κ i with|some j=>H' j=some s|none=>H i=some s/\∀k q,(if(h.he.get k).isSome then H k else none)=some q->id k≠i)/\
       (∀i j k s q,Hc i=some s->Hc j=some q->κ i=some k->κ j=some k->i=j):=by
      intro e s hrun he0 hres;unfold rv at hres;split at hres
      rotate_left
      ·cases hres
      rename_i ls hls;cases hres;refine⟨λr H'=>∃ρ',ρ <+:ρ'/\ρ'.length=s.h.n/\Rep ρ' (cz ls) r/\HRep ρ' s.h.he H',WO (XF (hpf k)) (hpf k) k fn.cc _ e s hrun ρ _ _ ⟨hn,hS0,hH0⟩ _ λρ' σ' H' hp hr=>?_,?_⟩
      ·have hres:=GF hr.2.1 hr.2.2 fn.rs ls hls (λds=>∃ρ',ρ <+:ρ'/\ρ'.length=s.h.n/\Rep ρ' (cz ls) (cz ds)/\HRep ρ' s.h.he H') λds hd=>⟨ρ',hp,hr.1,GH hd,hr.2.2⟩
       rcases he0 with rfl|rfl
       ·exact hres
       ·exact hres
      ·rintro r H' ⟨ρ',hp,hn',hr,hH'⟩;rcases hK with hK|⟨he0,hK⟩
       rotate_left
       ·obtain⟨q0,hq1,hq2⟩:=hK ρ' r H' hr (NA hH');exact⟨q0,H',H,λ_=>none,hq1,λj q h=>⟨h,λi e=>by cases e⟩,hq2,λi q hi=>⟨hi,λk q h=>(by rw[he0]at h;simp[Tr.get_e]at h)⟩,λi j k q q' _ _ h1 h2=>(by cases h1)⟩
       refine⟨r,cv,λi=>if(s.h.he.get i).isSome then H' i else none,λi=>some i, .same _,λj q h=>(by cases h),hK ρ' r _ hp (by rw[qbB];exact hn') hr (NA λi q hi=>?_),λi q hi=>?_,λi j k q q' _ _ h1 h2=>by cases h1;cases h2;rfl⟩
       ·obtain⟨q',h1,h2⟩:=hH' i q hi;exact⟨q',by rw[hi];simpa using h1,h2⟩
       ·dsimp only at hi ⊢;split at hi
        ·exact hi
        ·cases hi
     split at hx
     ·cases hx
     ·rename_i e1 s1 hne hrun;refine main e1 s1 hrun ?_ hx;cases e1 with
      | norm=>exact .inl rfl
      | ret=>exact .inr rfl
      | ex i=>exact(hne i rfl).elim
     ·cases hx
    ·cases hx
   ·exact hT f
mutual
def pl:D->Bool
 | .v _=>true
 | .agg cs=>Tk cs
 | .tup cs=>Tk cs
 | .list _ cs=>Tk cs
 | .cptr cs _=>Tk cs
 | .clo _ cs=>Tk cs
 | .undef=>true
 | _=>false
def Tk:List D->Bool
 | []=>true
 | d::l=>pl d && Tk l
end
mutual
def Uk{ρ:VL} :∀d:D,pl d=true->Rep ρ d d
 | .v x,_=> .v x
 | .undef,_=> .undef
 | .agg cs,h=> .agg _ _ rfl (nC cs (by simpa [pl]using h)).2
 | .tup cs,h=> .tup _ _ rfl (nC cs (by simpa [pl]using h)).2
 | .list n cs,h=> .list _ _ _ rfl (nC cs (by simpa [pl]using h)).2
 | .cptr cs o,h=> .cptr _ _ _ rfl (nC cs (by simpa [pl]using h)).2
 | .clo f cs,h=> .clo _ _ _ rfl (nC cs (by simpa [pl]using h)).2
 | .any,h| .own _ _,h| .bptr _ _ _,h| .eptr _ _ _ _ _,h| .sub _ _ _ _ _,h| .tape _,h| .mp _,h| .mst _ _,h=>by simp[pl]at h
def nC{ρ:VL} :∀l:List D,Tk l=true->RepL ρ l l
 | [],_=> .nil
 | d::l,h=>by
   rw[Tk,qjE]at h;exact .cons (Uk d h.1) (nC l h.2)
end
def XB{H:aa}{d d':D}(h:FrzTo cv d d'):FrzTo H d d':=by
 induction h with
 | same d=>exact .same d
 | any d=>exact .any d
 | nil n=>exact .nil n
 | own i j x=>exact .own i j x
 | nilown j=>exact .nilown j
 | bptr i j b off=>exact .bptr i j b off
 | row h _ _ _ _=>cases h
 | sub h _ _ _ _=>cases h
 | list hl hk _ ih=>exact .list hl hk ih
 | box h=>cases h
 | agg hl _ ih=>exact .agg hl ih
 | tup hl _ ih=>exact .tup hl ih
 | clo hl _ ih=>exact .clo hl ih
 | nomp=>exact .nomp
 | mrow h _ _ _=>cases h
 | mp hl _ ih=>exact .mp hl ih
theorem IT{P:Program}{f:Nat}{cf:CF}(hf:Tri dq P f (RY cf f)){A:Type}{G:fw A}{pre:A->Prop}{Y:Type}{er:Y->D}{post:A->Y->Prop}
 (hr:∀x,pre x->Tk (G.view x)=true/\∃r h y,cf f (G.view x) ⟨.e, [], [],0⟩=some (r,h)/\(∀ (ρ':VL) (r':D) (H':aa),Rep ρ' r r'->HRep ρ' h.he H'->FrzTo H' r' (er y))/\post x y):Tri dq P f (aZ G pre er post).pt:=by
 intro O tp w vs ds H d K hO htl hsat hlen hargs hA;rw[kA]at hA;cases hd:G.dec ds with
 | none=>rw[hd]at hA;exact hA.elim
 | some x=>
   rw[hd]at hA;obtain⟨hp,hK⟩:=hA;obtain⟨h1,r,h,y,h2,h3,h4⟩:=hr x hp;have hle:=G.le ds x hd;refine hf O tp w vs (G.view x) H d K hO htl hsat (by rw[hlen,hle.1]) (λk v c h5 h6=>?_) ⟨G.view x,⟨.e, [], [],0⟩,r,h, [],h2,rfl,nC _ h1,λi r h=>(by cases h), .inr ⟨rfl,λρ' r' H' h5 h7=>?_⟩⟩
   ·have hlt:k < ds.length:=by rw[<-hlen];exact(qjA.1 h5).1
    have e:=qjC hlt;exact(hle.2 k _ c e h6).R (H:=cv) (λi r h=>by cases h) (λ_ h=>h) (λi r b h=>by cases h) (hargs k _ _ h5 e)
   ·exact⟨er y,h3 ρ' r' H' h5 h7,hK y h4⟩
def vq:Value->Value->Bool
 | .int k a, .int k' b=>decide (k=k') && decide (a=b)
 | .string a, .string b=>decide (a=b)
 | .bool a, .bool b=>decide (a=b)
 | _,_=>false
def qb9(f:D->D->Bool):List D->List D->Bool
 | [], []=>true
 | c::cs,d::ds=>f c d && qb9 f cs ds
 | _,_=>false
def qiV(w:Nat)(d:D):Bool:=d.kn && Nat.beq d.cells.length w
noncomputable def fz:Nat->HE->D->D->Bool
 | 0=>λ_ _ _=>false
 | n+1=>λhe r t=>match t with
   | .any=>true
   | .v x=>(match r with
     | .v y=>vq y x
     | _=>false)
   | .agg ts=>(match r with
     | .agg es=>qb9 (fz n he) es ts
     | _=>false)
   | .tup ts=>(match r with
     | .tup es=>qb9 (fz n he) es ts
     | _=>false)
   | .list w ts=>ts.all (qiV w) && (match r with
     | .v (.slice none 0 0)=>ts.isEmpty
     | .list w' es=>Nat.beq w' w && qb9 (fz n he) es ts
     | .own id x=>(match he.get id with
       | some (.row x' _ w' es)=>MK x' x && Nat.beq w' w && qb9 (fz n he) es ts
       | _=>false)
     | _=>false)
   | _=>false
def ku{P:Program}{f:Nat}{cf:CF}(hf:Tri dq P f (RY cf f)){A:Type}{G:fw A}{pre:A->Prop}{Y:Type}{er:Y->D}{post:A->Y->Prop}
 (hr:∀x,pre x->Tk (G.view x)=true/\∃r h y,cf f (G.view x) ⟨.e, [], [],0⟩=some (r,h)/\(∀ (ρ':VL) (r':D),Rep ρ' r r'->FrzTo cv r' (er y))/\post x y):Tri dq P f (aZ G pre er post).pt:=
 IT hf λx hx=>(hr x hx).imp_right λ⟨r,h,y,h1,h2,h3⟩=>⟨r,h,y,h1,λρ' r' H' hr _=>XB (h2 ρ' r' hr),h3⟩
end X
end Go.Gv
