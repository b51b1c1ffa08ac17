/- A part of the framework and of the walks: T4 T5. -/
import Derived.Test.YtphdikcommfnhaaGreatDoorGg12
set_option linter.unusedSimpArgs false
set_option linter.unusedVariables false
set_option linter.unusedSectionVars false

namespace Go.Gv
def Ny(Hr H:ab):Prop:=∀i r,Hr i=some r->H i=some r
theorem Y9{d:D}{Hr H:ab}{K K':List D->Prop}(hle:Ny Hr H)(hk:∀l,K l->K' l)(h:yG d Hr K):yG d H K':=by
 unfold yG at h ⊢
 split at h <;> (try simp only at h ⊢)
 ·exact hk _ h
 ·exact hk _ h
 ·split at h
  ·rename_i e
   rw[hle _ _ e]
   exact⟨h.1,hk _ h.2⟩
  ·exact h.elim
theorem Y2{mo:MOp}{ds:List D}{Hr H:ab}{K:D->Prop}(hle:Ny Hr H)(hv:ta mo ds Hr K):ta mo ds H K:=by
 unfold ta at hv ⊢
 split at hv
 ·exact Y9 hle (fun _ h=>h) hv
 ·exact Y9 hle (fun _ h=>h) hv
 ·refine⟨hv.1,?_⟩
  have hv:=hv.2
  split at hv
  ·rename_i e
   rw[hle _ _ e]
   exact hv
  ·exact hv.elim
 ·exact hv
 ·exact hv.elim
theorem Vf{c:COp}{σ:Sg}{Hr H:ab}{K:D->Prop}(hle:Ny Hr H)(hv:ak c σ Hr K):ak c σ H K:=by
 cases c
 case load agg sz x=>
  simp only[ak]at hv ⊢
  split at hv
  ·exact hv
  ·split at hv
   ·rename_i h;rw[hle _ _ h];exact hv
   ·exact hv.elim
  ·split at hv
   ·rename_i h;rw[hle _ _ h];exact hv
   ·exact hv.elim
  ·exact hv.elim
 case iaddr n x i=>
  simp only[ak]at hv ⊢
  split at hv
  ·split at hv
   ·exact hv
   ·split at hv
    ·rename_i h;rw[hle _ _ h];exact hv
    ·exact hv.elim
   ·exact hv
   ·exact hv.elim
  ·exact hv.elim
 case slice n x lo hi=>
  simp only[ak]at hv ⊢
  split at hv
  ·exact hv
  ·split at hv
   ·rename_i h;rw[hle _ _ h];exact hv
   ·exact hv.elim
  ·exact hv
  ·exact hv
  ·exact hv.elim
 case bstr x=>
  simp only[ak]at hv ⊢
  split at hv
  ·split at hv
   ·rename_i h;rw[hle _ _ h];exact hv
   ·exact hv.elim
  ·exact hv
  ·exact hv.elim
 case len x=>
  simp only[ak]at hv ⊢
  split at hv
  ·exact hv
  ·split at hv
   ·rename_i h;rw[hle _ _ h];exact hv
   ·exact hv.elim
  ·exact hv
  ·exact hv
  ·exact hv.elim
 case box el im x=>cases im <;> exact hv
 case m mo xs=>exact Y2 hle hv
 case mm mx xs=>
  match xs,hv with
  | [],hv=>exact hv
  | [x],hv=>exact hv
  | [x,y],hv=>exact hv
  | [x,y,z],hv=>exact hv
  | _::_::_::_::_,hv=>exact hv
 all_goals exact hv
theorem qfA{n:Nat}{d:D}{Hr H:ab}{K K':List D->Prop}(hle:Ny Hr H)(hk:∀l,K l->K' l)(h:lM n d Hr K):lM n d H K':=by
 unfold lM at h ⊢
 split at h <;> (try simp only at h ⊢)
 ·exact⟨h.1,hk _ h.2⟩
 ·split at h
  ·rename_i e
   rw[hle _ _ e]
   exact⟨h.1,h.2.1,hk _ h.2.2⟩
  ·exact h.elim
 ·exact hk _ h
 ·split at h
  ·rename_i e
   rw[hle _ _ e]
   exact⟨h.1,h.2.1,h.2.2.1,hk _ h.2.2.2⟩
  ·exact h.elim
theorem qb4{n:Nat}{d:D}{Hr H:ab}{K K':List D->Prop}(hle:Ny Hr H)(hk:∀l,K l->K' l)(h:tA n d Hr K):tA n d H K':=by
 unfold tA at h ⊢
 split at h
 ·exact⟨h.1,hk _ h.2⟩
 ·exact qfA hle hk h
theorem YD{S:Nat->Spc}{c:COp}{dst:Option Nat}{σ:Sg}{Hr H:ab}{K:D->ab->Prop}(hle:Ny Hr H)(hv:av S c dst σ Hr H K):ax S c dst σ H K:=by
 by_cases hro:c.isRead=true
 ·have h:=Vf hle ((iE hro).1 hv)
  cases c <;> first|exact h|(simp[COp.isRead]at hro;done)|skip
  ·rename_i el im x
   cases im
   ·simp[COp.isRead]at hro
   ·exact h
  ·rename_i mo xs
   cases mo <;> first|(simp[COp.isRead,MOp.isRead]at hro;done)|exact h
 ·cases c
  case call f args=>
   simp only[av]at hv
   simp only[ax]
   cases h:S f with
   | pure pc=>rw[h]at hv;exact hv
   | none=>rw[h]at hv;exact hv.elim
   | gen A hA=>
     rw[h]at hv
     cases dst with
     | none=>exact hv.elim
     | some t=>exact hv.2
  case callv f args=>
   simp only[av]at hv
   simp only[ax]
   split at hv
   ·rename_i e1
    rw[e1]
    split at hv
    ·rename_i pc h;simp only[h];exact hv
    ·exact hv.elim
   ·exact hv.elim
  case callb r f args=>
   simp only[av]at hv
   simp only[ax]
   cases h:S f with
   | pure pc=>rw[h]at hv;exact hv.elim
   | none=>rw[h]at hv;exact hv.elim
   | gen A hA=>rw[h]at hv;exact hv.2
  case tbx el x=>exact hv
  case box el im x=>
   cases im
   ·exact hv
   ·exact absurd rfl hro
  case store rt sz x y=>
   obtain⟨h1,h2,hv⟩:=hv
   simp only[ax,bi]
   refine⟨h1,h2,?_⟩
   cases rt with
   | none=>exact hv.elim
   | some r=>
     simp only at hv
     split at hv
     ·rename_i id b off e1
      rw[e1]
      obtain⟨rfl,hv⟩:=hv
      exact hv
     ·rename_i id v n i off e1
      rw[e1]
      obtain⟨rfl,hv⟩:=hv
      exact hv
     ·exact hv.elim
  case srange x=>exact hv.elim
  case snext x=>exact hv.elim
  case append rt el n b x y=>
   simp only[av]at hv
   simp only[ax,bi]
   refine qb4 hle ?_ hv
   intro es2 h
   cases rt with
   | none=>
     simp only at h
     split at h
     ·rename_i t e1 e2
      rw[e2]
      exact h
     ·exact h.elim
   | some r=>
     simp only at h
     split at h
     ·rename_i id v e1
      rw[e1]
      obtain⟨rfl,h⟩:=h
      simp only
      split at h
      ·rename_i e2
       rw[e2]
       exact h
      ·exact h.elim
     ·exact h.elim
  case clear n agg z x=>exact hv.elim
  case copy n x y=>exact hv.elim
  case appmk el n b agg z x c=>exact hv
  case alloc el z=>exact hv
  case nslice el n=>exact hv
  case mslice el n ps=>exact hv
  case mkslice el n b agg z l cc=>exact hv
  case m mo xs=>
   cases mo
   case mk=>exact hv
   case upd=>exact hv.elim
   case rng=>exact hv.elim
   case next=>exact hv.elim
   all_goals exact absurd rfl hro
  all_goals exact absurd rfl hro
theorem UG{P:Program}{o:Oper}{a:Act}{w:World}{next:Act->World->Prop}(h:o.wp P a w next fun _ _ _=>False):∃a' w',next a' w':=by
 unfold Oper.wp at h
 generalize (execOp a.eval o).run P w=r at h
 cases r with
 | ok nx w'=>
   cases nx <;> simp only[Oper.upon]at h <;> first|exact⟨_,_,h⟩|exact h.elim|skip
   case enter f args=>
    obtain⟨e,w'',fr,hR,_⟩:=h []
    cases e with
    | returned v=>exact⟨_,_,hR⟩
    | panicked c=>exact hR.elim
    | outgrown=>obtain⟨_,_,hf⟩:=hR;exact hf.elim
   case row row args=>
    obtain⟨v,w'',hR,_⟩:=h default []
    exact⟨_,_,hR⟩
 | halt x w'=>cases x <;> simp only[Oper.upon]at h
section
variable {P:Program}{im:List Nat}{E:xn}{S:Nat->Spc}{ops:Array Oper}
theorem fA{N:Nat}{o:Oper}{x:CI}(h:dK P im N ops o=some x):∃g c,x= .op o.dst g c/\ca P im o=some c/\C8 ops o=some g/\∀t,o.dst=some t->t < N:=by
 unfold dK at h
 simp only[qtI,qtE]at h
 obtain⟨c,hc,g,hg,h⟩:=h
 split at h
 ·rename_i hd
  cases h
  exact⟨g,c,rfl,hc,hg,Z5 hd⟩
 ·cases h
theorem KB{o:Oper}{x:CI}{σ:Sg}{Hr H:ab}{a:Act}{w:World}{K:D->ab->Prop}{z:List PanicEntry->Prop}(hS:cO P z S x)(hx:dK P im E.N ops o=some x)(hst:St E σ H a w)(hle:Ny Hr H)(hv:JC S x σ Hr H K)
 {next:Act->World->Prop} {Q:Exit->Act->World->Prop} (hpan:∀c w',Su E z c w'->Q (.panic c) a w') (hnext:∀r H' v w',K r H'->St E (eH σ o.dst r) H' (a.put o.dst v) w'->next (a.put o.dst v) w'):
 if Region.wanted o (yielded ops a.tmps)then o.wp P a w next Q else next (a.put o.dst undef) w:=by
 obtain⟨g,c,rfl,hc,hg,hdst⟩:=fA hx
 have hst0:=hst
 obtain⟨hd,hN,tp,hw,hr⟩:=hst
 have hgv:oR g σ (fun σ'=>σ'=σ->av S c o.dst σ Hr H K) (fun σ'=>σ'=σ->K .undef H):=by
  cases g with
  | none=>exact fun _=>hv
  | some sb=>
    obtain⟨s,b⟩:=sb
    simp only[JC]at hv
    simp only[oR]
    split at hv
    ·rename_i e1
     try rw[e1]
     exact⟨fun e _=>hv.1 e,fun e _=>hv.2 e⟩
    ·rename_i e1
     try rw[e1]
     exact fun _=>hv
    ·exact hv.elim
 rcases yI hg hr hgv with⟨hwant,hyes⟩|⟨hwant,hno⟩
 ·rw[if_pos hwant]
  exact EN hS hc hw hd hN hr hdst (YD hle (hyes rfl)) hpan hnext
 ·rw[if_neg (by simp[hwant])]
  exact hnext _ _ _ _ (hno rfl) (hst0.skip o.dst hdst)
theorem Rz{o:Oper}{x:CI}{σ:Sg}{Hr H:ab}{a:Act}{w:World}{K:D->ab->Prop}(hS0:cO P OT S x)(hx:dK P im E.N ops o=some x)(hst:St E σ H a w)(hle:Ny Hr H)(hv:JC S x σ Hr H K):
 ∃r H' a' w',K r H'/\St E (eH σ o.dst r) H' a' w':=by
 have h:=KB (Q:=fun _ _ _=>False) (next:=fun a' w'=>∃r H',K r H'/\St E (eH σ o.dst r) H' a' w') hS0 hx hst hle hv (fun c w' h=>h.1) (fun r H' v w' hk hs=>⟨r,H',hk,hs⟩)
 split at h
 ·obtain⟨a',w',r,H',hk,hs⟩:=UG h
  exact⟨r,H',a',w',hk,hs⟩
 ·obtain⟨r,H',hk,hs⟩:=h
  exact⟨r,H',_,_,hk,hs⟩
def kD(x y:CI):Bool:=
 (match x.dst with|some d=>!y.reads.contains d|none=>true) && (match y.dst with|some e=>!x.reads.contains e|none=>true) &&
 (match x.dst,y.dst with|some d,some e=>d !=e|_,_=>true) && (match x.wid,y.wid with|some p,some q=>QG p !=QG q|_,_=>true)
theorem IT{x y:CI}(h:kD x y=true):(∀d,x.dst=some d->d∉y.reads)/\(∀e,y.dst=some e->e∉x.reads)/\(∀d e,x.dst=some d->y.dst=some e->d≠e)/\(∀p q,x.wid=some p->y.wid=some q->QG p≠QG q):=by
 unfold kD at h
 simp only[qtN]at h
 obtain⟨⟨⟨h1,h2⟩,h3⟩,h4⟩:=h
 refine⟨fun d hd=>?_,fun e he=>?_,fun d e hd he=>?_,fun p q hp hq=>?_⟩
 ·rw[hd]at h1;simpa using h1
 ·rw[he]at h2;simpa using h2
 ·rw[hd,he]at h3;simpa using h3
 ·rw[hp,hq]at h4;simpa using h4
theorem Mg{H:ab}{p q:Option Nat}(h:∀d e,p=some d->q=some e->QG d≠QG e)(u:List (Nat×Res)):pF (fD H p u) q=pF H q:=by
 funext i
 simp only[pF]
 by_cases hq:Dv q i
 ·rw[if_pos hq,if_pos hq]
  cases q with
  | none=>exact hq.elim
  | some q=>
    cases p with
    | none=>simp only[fD,Dv];exact if_neg id
    | some p=>
      have hn:¬Dv (some p) i:=fun hp=>h p q rfl rfl (Eq.trans (Eq.symm hp) hq)
      simp only[fD]
      rw[if_neg hn]
 ·rw[if_neg hq,if_neg hq]
theorem UW{σ:Sg}{t s:Nat}(h:t≠s)(d e:D):eH (eH σ (some t) d) (some s) e=eH (eH σ (some s) e) (some t) d:=by
 funext k
 simp only[eH,upd]
 by_cases h1:k=s
 ·by_cases h2:k=t
  ·exact absurd (h2.symm.trans h1) h
  ·simp[h1,h2];intro h3;exact absurd h3.symm h
 ·simp[h1]
theorem QS{σ:Sg}{t s:Option Nat}(h:∀d e,t=some d->s=some e->d≠e)(d e:D):eH (eH σ t d) s e=eH (eH σ s e) t d:=by
 cases t with
 | none=>rfl
 | some t=>
   cases s with
   | none=>rfl
   | some s=>exact UW (h t s rfl rfl) d e
theorem Sn{H:ab}{t s:Option Nat}(h:∀d e,t=some d->s=some e->QG d≠QG e)(u v:List (Nat×Res)):fD (fD H t u) s v=fD (fD H s v) t u:=by
 funext i
 have hn:¬ (Dv t i/\Dv s i):=fun⟨h1,h2⟩=>by
  cases t with
  | none=>exact h1
  | some t=>cases s with
    | none=>exact h2
    | some s=>exact h t s rfl rfl (Eq.trans (Eq.symm h1) h2)
 by_cases h1:Dv t i
 ·have h2:¬Dv s i:=fun h2=>hn ⟨h1,h2⟩
  simp only[fD,h1,h2,if_true,if_false]
 ·simp only[fD,h1,if_false]
theorem XJ{σ:Sg}{t:Nat}{d:D}{l:List Nat}(h:t∉l):∀s∈l,eH σ (some t) d s=σ s:=by
 intro s hs
 simp only[eH,upd]
 rw[if_neg (fun e=>h (by rw[<-e];exact hs))]
theorem DR{σ:Sg}{t:Option Nat}{d:D}{l:List Nat}(h:∀s,t=some s->s∉l):∀s∈l,eH σ t d s=σ s:=by
 cases t with
 | none=>exact fun _ _=>rfl
 | some t=>exact XJ (h t rfl)
theorem NT{x:CI×ab}{K:Sg->ab->Prop} :∀ (l1 l2:List (CI×ab)) (σ:Sg) (H:ab),(∀y∈l1,kD y.1 x.1=true)->qbn S (l1++x::l2) σ H K->∀ (r0:ab),pF H x.1.wid=r0->
 ∀ (pre:Prop) (out:D->List (Nat×Res)->Prop),(∀H,pF H x.1.wid=r0->∀K,JC S x.1 σ x.2 H K↔ (pre/\∀d u,out d u->K d (fD H x.1.wid u)))->∀d u,out d u->qbn S (l1++l2) (eH σ x.1.dst d) (fD H x.1.wid u) K
 | [],l2,σ,H,_,hv,r0,hr0,pre,out,hform,d,u,hout=>((hform H hr0 _).1 hv).2 d u hout
 | y::l1,l2,σ,H,hap,hv,r0,hr0,pre,out,hform,d,u,hout=>by
   obtain⟨h1,h2,h3,h4⟩:=IT (hap y (by simp))
   obtain⟨qy,oy,hyf⟩:=H4 S y.1 σ y.2 (pF H y.1.wid)
   have hyf:∀H',pF H' y.1.wid=pF H y.1.wid->∀K,JC S y.1 σ y.2 H' K↔ (qy/\∀d u,oy d u->K d (fD H' y.1.wid u)):=hyf
   have hv':=(hyf H rfl _).1 hv
   have hcong:∀H K,JC S y.1 (eH σ x.1.dst d) y.2 H K↔JC S y.1 σ y.2 H K:=fun H K=>by
    exact DY (DR h2)
   have e1:pF (fD H x.1.wid u) y.1.wid=pF H y.1.wid:=Mg (fun d e hd he q=>h4 e d he hd q.symm) u
   refine(hcong _ _).2 ((hyf _ e1 _).2 ⟨hv'.1,fun e v hev=>?_⟩)
   have hk:=hv'.2 e v hev
   have hform':∀H,pF H x.1.wid=r0->∀K,JC S x.1 (eH σ y.1.dst e) x.2 H K↔ (pre/\∀d u,out d u->K d (fD H x.1.wid u)):=fun H hr K=>by
    rw[<-hform H hr K]
    exact DY (DR h1)
   have e2:pF (fD H y.1.wid v) x.1.wid=r0:=by rw[<-hr0];exact Mg h4 v
   have:=NT l1 l2 (eH σ y.1.dst e) (fD H y.1.wid v) (fun z hz=>hap z (by simp[hz])) hk r0 e2 pre out hform' d u hout
   rwa [QS h3 e d,Sn h4 v u]at this
theorem Ka{x:CI×ab}{K:Sg->ab->Prop} :∀ (l1 l2:List (CI×ab)) (σ:Sg) (H:ab) (a:Act) (w:World),(∀y∈l1,cO P OT S y.1)->(∀y∈l1,kD y.1 x.1=true)->
 (∀y∈l1,∃o,dK P im E.N ops o=some y.1)->(l1.Pairwise fun y z=>∀t,Dv y.1.wid t->z.2 t=none)->(∀y∈l1,∀t,Dv y.1.wid t->x.2 t=none)->St E σ H a w->(∀y∈l1,Ny y.2 H)->Ny x.2 H->qbn S (l1++x::l2) σ H K->∀ (r0:ab),pF H x.1.wid=r0->
 ∀ (pre:Prop) (out:D->List (Nat×Res)->Prop),(∀H,pF H x.1.wid=r0->∀K,JC S x.1 σ x.2 H K↔ (pre/\∀d u,out d u->K d (fD H x.1.wid u)))->pre
 | [],l2,σ,H,a,w,_,_,_,_,_,_,_,_,hv,r0,hr0,pre,out,hform=>((hform H hr0 _).1 hv).1
 | y::l1,l2,σ,H,a,w,hqu,hap,hcomp,hban,hbx,hst,hle,hlx,hv,r0,hr0,pre,out,hform=>by
   obtain⟨h1,h2,h3,h4⟩:=IT (hap y (by simp))
   obtain⟨o,ho⟩:=hcomp y (by simp)
   have hdst:y.1.dst=o.dst:=by
    obtain⟨g,c,hxe,_⟩:=fA ho;rw[hxe];rfl
   obtain⟨hb1,hb2⟩:=qvB.1 hban
   have keep:∀ (Hr:ab),Ny Hr H->(∀t,Dv y.1.wid t->Hr t=none)->∀u,Ny Hr (fD H y.1.wid u):=fun Hr hh hb u i r hi=>by
    by_cases hw:Dv y.1.wid i
    ·rw[hb i hw]at hi;cases hi
    ·simp only[fD]
     rw[if_neg hw]
     exact hh i r hi
   obtain⟨qy,oy,hyf⟩:=H4 S y.1 σ y.2 (pF H y.1.wid)
   have hyf:∀H',pF H' y.1.wid=pF H y.1.wid->∀K,JC S y.1 σ y.2 H' K↔ (qy/\∀d u,oy d u->K d (fD H' y.1.wid u)):=hyf
   have hv':=(hyf H rfl _).1 hv
   have hv2:JC S y.1 σ y.2 H fun d H'=>qbn S (l1++x::l2) (eH σ y.1.dst d) H' K/\((∀z∈l1,Ny z.2 H')/\Ny x.2 H')/\pF H' x.1.wid=r0:=(hyf H rfl _).2 ⟨hv'.1,fun d u hout=>⟨hv'.2 d u hout,⟨fun z hz=>keep z.2 (hle z (by simp[hz])) (hb1 z hz) u,keep x.2 hlx (hbx y (by simp)) u⟩,by rw[<-hr0];exact Mg h4 u⟩⟩
   obtain⟨r,H',a',w',⟨hk,hle',hr'⟩,hst'⟩:=Rz (hqu y (by simp)) ho hst (hle y (by simp)) hv2
   rw[<-hdst]at hst'
   have hform':∀H,pF H x.1.wid=r0->∀K,JC S x.1 (eH σ y.1.dst r) x.2 H K↔ (pre/\∀d u,out d u->K d (fD H x.1.wid u)):=fun H hr K=>by
    rw[<-hform H hr K]
    exact DY (DR h1)
   exact Ka l1 l2 _ H' a' w' (fun z hz=>hqu z (by simp[hz])) (fun z hz=>hap z (by simp[hz])) (fun z hz=>hcomp z (by simp[hz])) hb2 (fun z hz=>hbx z (by simp[hz])) hst' hle'.1 hle'.2 hk r0 hr' pre out hform'
end
end Go.Gv

namespace Go.Gv
def Eu(o:Oper):List Nat:=(o.after.toList.filter fun e=>Region.binds .any e).map (·.on)
def Nn:List Oper->List (List Nat)->List (List Nat)
 | [],acc=>acc
 | o::r,acc=>Nn r (acc++ [((Eu o) ++ (Eu o).flatMap fun j=>(acc[j]?).getD []).eraseDups])
def Uo(ops:Array Oper):List (List Nat):=Nn ops.toList []
def RN(an:List (List Nat))(j i:Nat):Bool:=((an[j]?).getD []).contains i
def RB(ops:Array Oper)(cis:List CI)(m:Nat):Bool:=
 (List.range ops.size).all (fun i=>((ops[i]?).map fun o=>(Eu o).all (· < i)).getD true) &&
 (List.range ops.size).all (fun j=>decide (j < m)||(List.range j).all fun i=>RN (Uo ops) j i) &&
 (List.range m).all (fun j=>(List.range j).all fun i=>RN (Uo ops) j i||(match cis[i]?,cis[j]? with|some x,some y=>kD x y|_,_=>false)) &&
 decide (m<=ops.size)
def vn(listed:Array Bool)(i:Nat):Prop:=listed.getD i false=true
def DC(ops:Array Oper)(listed:Array Bool):Prop:=∀i o,ops[i]? =some o->vn listed i->∀j∈Eu o,vn listed j
theorem JU{α:Type}[BEq α][LawfulBEq α]{l:List α}{x:α}(h:x∈l.eraseDups):x∈l:=by
 simpa using h
theorem qaO{ops:Array Oper}{listed:Array Bool}(hdc:DC ops listed):∀ (r:List Oper) (acc:List (List Nat)),(∀ (k:Nat),r[k]? =ops[acc.length+k]?)->
 (∀ (k:Nat) (l:List Nat),acc[k]? =some l->(∀o,ops[k]? =some o->∀j∈Eu o,vn listed j)->∀j∈l,vn listed j)->
 ∀ (k:Nat) (l:List Nat),(Nn r acc)[k]? =some l->(∀o,ops[k]? =some o->∀j∈Eu o,vn listed j)->∀j∈l,vn listed j
 | [],acc,_,hacc=>hacc
 | o::r,acc,hr,hacc=>by
   simp only[Nn]
   refine qaO hdc r _ (fun k=>?_) (fun k l hl hd j hj=>?_)
   ·have:=hr (k+1)
    simp only[quL]at this
    rw[this]
    congr 1
    simp;omega
   ·have ho:ops[acc.length]? =some o:=by
     have:=hr 0
     simpa using this.symm
    by_cases hk:k < acc.length
    ·rw[qt0 hk]at hl
     exact hacc k l hl hd j hj
    ·rw[qtQ (by omega)]at hl
     have hk0:k -acc.length=0:=by
      have:=(qtG.1 hl).1
      simp at this;omega
     have hke:k=acc.length:=by omega
     subst hke
     rw[hk0]at hl
     simp at hl
     subst hl
     have hd':=hd o ho
     rcases qtK.1 (JU hj)with hj|hj
     ·exact hd' j hj
     ·obtain⟨q,hq,hjq⟩:=quM.1 hj
      cases hacq:acc[q]? with
      | none=>rw[hacq]at hjq;simp at hjq
      | some lq=>
        rw[hacq]at hjq
        simp at hjq
        exact hacc q lq hacq (fun oq hoq=>hdc q oq hoq (hd' q hq)) j hjq
theorem C6{ops:Array Oper}{listed:Array Bool}(hdc:DC ops listed){j i:Nat}(h:RN (Uo ops) j i=true)(hj:∀o,ops[j]? =some o->∀k∈Eu o,vn listed k):vn listed i:=by
 unfold RN at h
 cases hl:(Uo ops)[j]? with
 | none=>rw[hl]at h;simp at h
 | some l=>
   rw[hl]at h
   exact qaO hdc ops.toList [] (fun k=>by simp) (fun k l h=>by simp at h) j l hl hj i (by simpa using h)
theorem qU{ops:Array Oper}{listed:Array Bool}{i:Nat} :i∈Region.ready .any ops listed↔i < ops.size/\listed.getD i true=false/\∀o,ops[i]? =some o->∀j∈Eu o,vn listed j:=by
 unfold Region.ready
 rw[qva,qve]
 constructor
 ·rintro⟨h1,h2⟩
  simp only[qtN,qvl]at h2
  refine⟨h1,h2.1,fun o ho j hj=>?_⟩
  rw[ho]at h2
  simp only[qvy,qup,qwq]at h2
  unfold Eu at hj
  obtain⟨e,he,rfl⟩:=qtU.1 hj
  rw[qva]at he
  obtain⟨k,hk,hke⟩:=List.mem_iff_getElem.1 he.1
  have:=h2.2 k (by simpa using hk)
  have hke':o.after[k]'(by simpa using hk)=e:=by simpa using hke
  rw[hke',he.2]at this
  simpa [vn]using this
 ·rintro⟨h1,h2,h3⟩
  have ho:ops[i]? =some ops[i]:=by simp[h1]
  refine⟨h1,?_⟩
  simp only[h2,Bool.not_false,qvu,ho,qvy,qup,qwq]
  intro k hk
  by_cases hb:Region.binds .any (ops[i].after[k])=true
  ·have:=h3 _ ho (ops[i].after[k]).on (by
    unfold Eu
    exact qtU.2 ⟨_,qva.2 ⟨by simp,hb⟩,rfl⟩)
   simp only[vn]at this
   simp[this]
  ·simp[hb]
theorem Iy{listed:Array Bool}{i k:Nat}(hi:i < listed.size):vn (listed.setIfInBounds i true) k↔k=i\/vn listed k:=by
 simp only[vn,qud,qu1]
 by_cases h:i=k
 ·subst h;simp[hi]
 ·rw[if_neg h]
  constructor
  ·exact .inr
  ·rintro(rfl|h2)
   ·exact absurd rfl h
   ·exact h2
theorem qaj{ops:Array Oper}{listed:Array Bool}(hdc:DC ops listed)(hs:listed.size=ops.size){i:Nat}(hi:i∈Region.ready .any ops listed):DC ops (listed.setIfInBounds i true):=by
 obtain⟨h1,h2,h3⟩:=qU.1 hi
 intro k o ho hk j hj
 rw[Iy (by omega)]at hk ⊢
 rcases hk with rfl|hk
 ·exact .inr (h3 o ho j hj)
 ·exact .inr (hdc k o ho hk j hj)
theorem mw{ops:Array Oper}{listed:Array Bool}(hs:listed.size=ops.size){i:Nat}(hi:i < ops.size):listed.getD i true=false↔ ¬vn listed i:=by
 simp only[vn,qud]
 have:listed[i]? =some listed[i]:=by simp[hs,hi]
 rw[this]
 simp
section
variable {P:Program}{im:List Nat}{E:xn}{S:Nat->Spc}{ops:Array Oper}
theorem rW{cis:List CI}{N:Nat}(h:iS P im N ops=some cis):cis.length=ops.size/\∀ (i:Nat) (o:Oper),ops[i]? =some o->∃x,cis[i]? =some x/\dK P im N ops o=some x:=by
 unfold iS at h
 have key:∀ (l:List Oper) (cs:List CI),l.mapM (dK P im N ops)=some cs->cs.length=l.length/\∀ (i:Nat) (o:Oper),l[i]? =some o->∃x,cs[i]? =some x/\dK P im N ops o=some x:=by
  intro l
  induction l with
  | nil=>intro cs h;simp at h;subst h;exact⟨rfl,fun i o h=>by simp at h⟩
  | cons o l ih=>
    intro cs h
    rw[qui]at h
    simp only[qtI,qtE]at h
    obtain⟨x,hx,y,hy,h⟩:=h
    cases h
    obtain⟨h1,h2⟩:=ih y hy
    refine⟨by simp[h1],fun i q hq=>?_⟩
    cases i with
    | zero=>simp at hq;subst hq;exact⟨x,rfl,hx⟩
    | succ i=>simp at hq;simpa using h2 i q hq
 obtain⟨h1,h2⟩:=key _ _ h
 exact⟨by simpa using h1,fun i o ho=>h2 i o (by simpa using ho)⟩
theorem GR{Q:Exit->Act->World->Prop}{K:Sg->ab->Prop}{z:List PanicEntry->Prop}(hpan:∀c a w',a.defers=E.ds->Su E z c w'->Q (.panic c) a w')(hQ:∀σ H a w,St E σ H a w->K σ H->Q .normal a w)
 (hC0:∀i o,ops[i]? =some o->∀j∈Eu o,j < i) {m:Nat} (hC2:∀j,m<=j->j < ops.size->∀i,i < j->RN (Uo ops) j i=true):
 ∀ (tl:List CI),(∀x∈tl,cO P z S x)->∀ (k:Nat) (listed:Array Bool),m<=k->k<=ops.size->listed.size=ops.size->(∀i,i < ops.size->(vn listed i↔i < k))->DC ops listed->
  ((ops.toList.drop k).mapM (dK P im E.N ops)=some (tl.filter CI.real))->∀ (σ:Sg) (H:ab) (a:Act) (w:World),St E σ H a w->B2 S tl σ H K->
  wpAny P .any ops Q (ops.size -k) listed a w
 | [],hS,k,listed,hmk,hk,hs,hd,hdc,hm,σ,H,a,w,hst,hv=>by
   have hkn:k=ops.size:=by
    cases hdr:ops.toList.drop k with
    | nil=>
      have:=congrArg List.length hdr
      simp at this
      omega
    | cons o r=>
      rw[hdr,qui]at hm
      simp only[qtI,qtE,List.filter_nil]at hm
      obtain⟨x,_,y,_,h⟩:=hm
      cases h
   subst hkn
   rw[qvh]
   refine⟨?_,hQ σ H a w hst hv⟩
   rw[List.eq_nil_iff_forall_not_mem]
   intro i hi
   obtain⟨h1,h2,_⟩:=qU.1 hi
   rw[mw hs h1]at h2
   exact h2 ((hd i h1).2 h1)
 | .frz t n::tl,hS,k,listed,hmk,hk,hs,hd,hdc,hm,σ,H,a,w,hst,hv=>by
   simp only[B2]at hv
   obtain⟨σ',H',hst',hv'⟩:=K1 hst hv
   exact GR hpan hQ hC0 hC2 tl (fun x hx=>hS x (by simp[hx])) k listed hmk hk hs hd hdc (by simpa [quV,CI.real]using hm) σ' H' a w hst' hv'
 | .op dst g c::tl,hS,k,listed,hmk,hk,hs,hd,hdc,hm,σ,H,a,w,hst,hv=>by
   have hkn:k < ops.size:=by
    cases hdr:ops.toList.drop k with
    | nil=>rw[hdr]at hm;simp[quV,CI.real]at hm
    | cons o r=>
      have:=congrArg List.length hdr
      simp at this
      omega
   have hdrop:ops.toList.drop k=ops[k]::ops.toList.drop (k+1):=by
    rw[quh (by simpa using hkn)]
    simp
   rw[hdrop,qui]at hm
   simp only[qtI,qtE,quV,CI.real,if_true]at hm
   obtain⟨x,hx,y,hy,h⟩:=hm
   cases h
   obtain⟨g',c',hxe,hc,hg,hdst⟩:=fA hx
   cases hxe
   have hfu:ops.size -k=(ops.size - (k+1)) +1:=by omega
   rw[hfu]
   have hok:ops[k]? =some ops[k]:=by simp[hkn]
   have hkready:k∈Region.ready .any ops listed:=qU.2 ⟨hkn,(mw hs hkn).2 (fun h=>by have:=(hd k hkn).1 h;omega),fun o ho j hj=>by
    have hjk:=hC0 k o ho j hj
    exact(hd j (by omega)).2 hjk⟩
   refine⟨fun h=>(by rw[h]at hkready;cases hkready),fun i hi=>?_⟩
   obtain⟨h1,h2,h3⟩:=qU.1 hi
   rw[mw hs h1]at h2
   have hik:i=k:=by
    rcases qwr i k with h|h|h
    ·exact absurd ((hd i h1).2 h) h2
    ·exact h
    ·exfalso
     have:=C6 hdc (hC2 i (by omega) h1 k h) h3
     have:=(hd k hkn).1 this
     omega
   subst hik
   unfold wpOp
   rw[hok]
   simp only[]
   have hst0:=hst
   obtain⟨hdf,hN,tp,hw,hr⟩:=hst
   simp only[B2]at hv
   have hnext:∀ (σ':Sg) (H':ab) (a':Act) (w':World),St E σ' H' a' w'->B2 S tl σ' H' K->wpAny P .any ops Q (ops.size - (i+1)) (listed.setIfInBounds i true) a' w':=fun σ' H' a' w' hst' hv'=>
    GR hpan hQ hC0 hC2 tl (fun x hx=>hS x (by simp[hx])) (i+1) _ (by omega) (by omega) (by simpa using hs) (fun j hj=>by rw[Iy (by omega),hd j hj];omega) (qaj hdc hs hi) hy σ' H' a' w' hst' hv'
   rcases yI hg hr hv with⟨hwant,hyes⟩|⟨hwant,hno⟩
   ·rw[if_pos hwant]
    exact .inl (EN (hS (.op _ g c) (qwh ..)) hc hw hdf hN hr hdst hyes (fun c w'=>hpan c a w' hdf) (fun r H' x w' hk hst'=>hnext _ _ _ _ hst' hk))
   ·rw[if_neg (by simp[hwant])]
    exact hnext _ _ _ _ (hst0.skip _ hdst) hno
theorem qck{Q:Exit->Act->World->Prop}{K:Sg->ab->Prop}{z:List PanicEntry->Prop}(hpan:∀c a w',a.defers=E.ds->Su E z c w'->Q (.panic c) a w')(hQ:∀σ H a w,St E σ H a w->K σ H->Q .normal a w){cis:List CI}(hcis:iS P im E.N ops=some cis)
 (hC0:∀i o,ops[i]? =some o->∀j∈Eu o,j < i) {m:Nat} (hS:∀j x,j < m->cis[j]? =some x->cO P z S x) (hquiet:∀j i x y,j < i->i < m->cis[j]? =some x->cis[i]? =some y->kD x y=true->cO P OT S x) (hm:m<=ops.size) (hC2:∀j,m<=j->j < ops.size->∀i,i < j->RN (Uo ops) j i=true)
 (hC1:∀j,j < m->∀i,i < j->RN (Uo ops) j i=true\/ ∃x y,cis[i]? =some x/\cis[j]? =some y/\kD x y=true) {tl:List CI} (htl:(ops.toList.drop m).mapM (dK P im E.N ops)=some (tl.filter CI.real)) (hStl:∀x∈tl,cO P z S x) {Hr:Nat->ab}
 (hban:∀i j x t,i < m->j < m->i≠j->cis[i]? =some x->Dv x.wid t->Hr j t=none\/RN (Uo ops) i j=true) (hbanc:∀i j x t,i < m->j < m->i < j->cis[i]? =some x->Dv x.wid t->Hr j t=none):
 ∀ (n:Nat) (us:List Nat) (listed:Array Bool),us.length=n->us.Pairwise (· < ·)->(∀i∈us,i < m)->listed.size=ops.size->(∀i,i < ops.size->(vn listed i↔i < m/\i∉us))->DC ops listed->
  ∀ (σ:Sg) (H:ab) (a:Act) (w:World),St E σ H a w->(∀i∈us,Ny (Hr i) H)->qbn S (us.map fun i=>((cis[i]?).getD (.frz 0 0),Hr i)) σ H (fun σ H=>B2 S tl σ H K)->
  wpAny P .any ops Q (us.length+ (ops.size -m)) listed a w:=by
 obtain⟨hclen,hcget⟩:=rW hcis
 intro n
 induction n with
 | zero=>
   intro us listed hn hpw hus hs hd hdc σ H a w hst hle hv
   have:us=[]:=qtW hn
   subst this
   simp only[qvY,quu]
   exact GR hpan hQ hC0 hC2 tl hStl m listed (qtP _) hm hs (fun i hi=>by rw[hd i hi];simp) hdc htl σ H a w hst hv
 | succ n ih=>
   intro us listed hn hpw hus hs hd hdc σ H a w hst hle hv
   have hfu:us.length+ (ops.size -m)=(n+ (ops.size -m)) +1:=by omega
   rw[hfu]
   have hne:Region.ready .any ops listed≠ []:=by
    cases us with
    | nil=>simp at hn
    | cons u us=>
      have hum:=hus u (by simp)
      have:u∈Region.ready .any ops listed:=qU.2 ⟨by omega,(mw hs (by omega)).2 (fun h=>((hd u (by omega)).1 h).2 (by simp)),fun o ho j hj=>by
       have hju:=hC0 u o ho j hj
       refine(hd j (by omega)).2 ⟨by omega,fun hmem=>?_⟩
       rcases qtM.1 hmem with rfl|hmem
       ·omega
       ·have:=qvz hpw hmem
        omega⟩
      intro h
      rw[h]at this
      cases this
   refine⟨fun h=>absurd h hne,fun i hi=>?_⟩
   obtain⟨h1,h2,h3⟩:=qU.1 hi
   rw[mw hs h1]at h2
   have hiu:i∈us:=by
    by_cases him:i < m
    ·by_cases hmem:i∈us
     ·exact hmem
     ·exact absurd ((hd i h1).2 ⟨him,hmem⟩) h2
    ·exfalso
     cases us with
     | nil=>simp at hn
     | cons u us=>
       have hum:=hus u (by simp)
       have:=C6 hdc (hC2 i (by omega) h1 u (by omega)) h3
       exact((hd u (by omega)).1 this).2 (by simp)
   obtain⟨us1,us2,rfl⟩:=qwi hiu
   have him:i < m:=hus i hiu
   have hoi:ops[i]? =some ops[i]:=by simp[h1]
   obtain⟨x,hxi,hx⟩:=hcget i _ hoi
   have hlt1:∀j∈us1,j < i:=fun j hj=>by
    have:=qvc.1 hpw
    exact this.2.2 j hj i (by simp)
   have hap:∀y∈us1.map (fun i=>((cis[i]?).getD (.frz 0 0),Hr i)),kD y.1 x=true:=by
    intro y hy
    obtain⟨j,hj,rfl⟩:=qtU.1 hy
    have hji:=hlt1 j hj
    rcases hC1 i him j hji with h|⟨x',y',e1,e2,e3⟩
    ·exfalso
     have:=C6 hdc h h3
     exact((hd j (by omega)).1 this).2 (by simp[hj])
    ·rw[hxi]at e2
     cases e2
     simp only[e1,qup]
     exact e3
   rw[qu9,qt7,hxi]at hv
   simp only[qup]at hv
   obtain⟨pre,out,hform⟩:=H4 S x σ (Hr i) (pF H x.wid)
   have hform:∀H',pF H' x.wid=pF H x.wid->∀K,JC S x σ (Hr i) H' K↔ (pre/\∀d u,out d u->K d (fD H' x.wid u)):=hform
   have hgx:∀ (j:Nat),j < i->∃y o,cis[j]? =some y/\dK P im E.N ops o=some y:=fun j hj=>by
    obtain⟨y',hy1,hy2⟩:=hcget j ops[j] (by simp)
    exact⟨y',_,hy1,hy2⟩
   have hpre:=Ka (x:=(x,Hr i)) (im:=im) (ops:=ops) _ _ σ H a w (fun y hy=>by
    obtain⟨j,hj,rfl⟩:=qtU.1 hy
    obtain⟨y',o',hy1,hy2⟩:=hgx j (hlt1 j hj)
    simp only[hy1,qup]
    have hap1:=hap ((cis[j]?).getD (.frz 0 0),Hr j) (qtU.2 ⟨j,hj,rfl⟩)
    simp only[hy1,qup]at hap1
    exact hquiet j i y' x (hlt1 j hj) him hy1 hxi hap1) hap (fun y hy=>by
    obtain⟨j,hj,rfl⟩:=qtU.1 hy
    obtain⟨y',o',hy1,hy2⟩:=hgx j (hlt1 j hj)
    simp only[hy1,qup]
    exact⟨_,hy2⟩) (by
    rw[qws]
    refine(qvc.1 hpw).1.imp_of_mem ?_
    intro j k hj hk hjk t ht
    obtain⟨y',o',hy1,hy2⟩:=hgx j (hlt1 j hj)
    simp only[hy1,qup]at ht
    have:=hlt1 k hk
    exact hbanc j k y' t (by omega) (by omega) hjk hy1 ht) (fun y hy t ht=>by
    obtain⟨j,hj,rfl⟩:=qtU.1 hy
    have hji:=hlt1 j hj
    obtain⟨y',o',hy1,hy2⟩:=hgx j hji
    simp only[hy1,qup]at ht
    exact hbanc j i y' t (by omega) (by omega) hji hy1 ht) hst (fun y hy=>by
    obtain⟨j,hj,rfl⟩:=qtU.1 hy
    exact hle j (by simp[hj])) (hle i (by simp)) hv _ rfl pre out hform
   have htake:=NT (x:=(x,Hr i)) _ _ σ H hap hv _ rfl pre out hform
   obtain⟨g,c,hxe,_,_,_⟩:=fA hx
   have hdx:x.dst=(ops[i]).dst:=by rw[hxe];rfl
   have hvx:JC S x σ (Hr i) H fun d H'=>qbn S ((us1++us2).map fun i=>((cis[i]?).getD (.frz 0 0),Hr i)) (eH σ x.dst d) H' (fun σ H=>B2 S tl σ H K)/\∀j∈us1++us2,Ny (Hr j) H':=(hform H rfl _).2 ⟨hpre,fun d u hout=>⟨by rw[qu9];exact htake d u hout,fun j hj k r hk=>by
    have hju:j∈us1++i::us2:=by
     rcases qtK.1 hj with h|h <;> simp[h]
    have hle':=hle j hju
    have hji:i≠j:=fun e=>by
     subst e
     have:=qvc.1 hpw
     rcases qtK.1 hj with h|h
     ·have:=hlt1 i h;omega
     ·have h4:=qvz this.2.1 h;omega
    have hjm:=hus j hju
    by_cases hw:Dv x.wid k
    ·rcases hban i j x k him hjm hji hxi hw with h|h
     ·rw[h]at hk
      cases hk
     ·have h5:=C6 hdc h h3
      exact absurd hju ((hd j (by omega)).1 h5).2
    ·simp only[fD]
     rw[if_neg hw]
     exact hle' k r hk⟩⟩
   unfold wpOp
   rw[hoi]
   simp only[]
   have hlen:(us1++us2).length=n:=by simp at hn ⊢;omega
   have hsub:(us1++us2).Pairwise (· < ·):=hpw.sublist (by simp)
   have hnd:i∉us1++us2:=by
    have:=qvc.1 hpw
    intro h
    rcases qtK.1 h with h|h
    ·have:=hlt1 i h;omega
    ·have h4:=qvz this.2.1 h;omega
   have hps:=KB (Q:=Q) (next:=wpAny P .any ops Q (n+ (ops.size -m)) (listed.setIfInBounds i true)) (hS i x him hxi) hx hst (hle i (by simp)) hvx (fun c w'=>hpan c a w' hst.1) (fun r H' v w' hk hst'=>by
    rw[<-hdx]at hst'
    have:=ih (us1++us2) (listed.setIfInBounds i true) hlen hsub (fun j hj=>hus j (by simp at hj ⊢;rcases hj with h|h <;> simp[h])) (by simpa using hs) (fun j hj=>by
     rw[Iy (by omega),hd j hj]
     constructor
     ·rintro(rfl|⟨ha,hb⟩)
      ·exact⟨him,hnd⟩
      ·exact⟨ha,fun h=>hb (by simp at h ⊢;rcases h with h|h <;> simp[h])⟩
     ·rintro⟨ha,hb⟩
      by_cases hji:j=i
      ·exact .inl hji
      ·exact .inr ⟨ha,fun h=>hb (by simp at h ⊢;rcases h with h|h|h;exact .inl h;exact absurd h hji;exact .inr h)⟩) (qaj hdc hs hi) _ H' _ w' hst' hk.2 hk.1
    rw[hlen,hdx]at this
    exact this)
   split
   ·rename_i hw
    rw[if_pos hw]at hps
    exact .inl hps
   ·rename_i hw
    rw[if_neg hw]at hps
    exact hps
end
end Go.Gv
