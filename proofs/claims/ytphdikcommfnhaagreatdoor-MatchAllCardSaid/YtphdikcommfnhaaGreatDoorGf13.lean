/- A part of the framework and of the walks: T4 T5. -/
import Derived.Test.YtphdikcommfnhaaGreatDoorGf12
set_option linter.unusedSimpArgs false
set_option linter.unusedVariables false
set_option linter.unusedSectionVars false

namespace Go.Gv
def Pz(Hr H:ab):Prop:=∀i r,Hr i=some r->H i=some r
theorem qbD{d:D}{Hr H:ab}{K K':List D->Prop}(hle:Pz Hr H)(hk:∀l,K l->K' l)(h:Ag d Hr K):Ag d H K':=by
 unfold Ag at h ⊢
 split at h <;> (try simp only at h ⊢)
 ·exact hk _ h
 ·exact hk _ h
 ·split at h
  ·rename_i e
   rw[hle _ _ e]
   exact⟨h.1,hk _ h.2⟩
  ·exact h.elim
theorem qbw{mo:MOp}{ds:List D}{Hr H:ab}{K:D->Prop}(hle:Pz Hr H)(hv:uv mo ds Hr K):uv mo ds H K:=by
 unfold uv at hv ⊢
 split at hv
 ·exact qbD hle (fun _ h=>h) hv
 ·exact qbD hle (fun _ h=>h) hv
 ·refine⟨hv.1,?_⟩
  have hv:=hv.2
  split at hv
  ·rename_i e
   rw[hle _ _ e]
   exact hv
  ·exact hv.elim
 ·exact hv
 ·exact hv.elim
theorem X0{c:COp}{σ:Sg}{Hr H:ab}{K:D->Prop}(hle:Pz Hr H)(hv:am c σ Hr K):am c σ H K:=by
 cases c
 case load agg sz x=>
  simp only[am]at hv ⊢
  split at hv
  ·exact hv
  ·split at hv
   ·rename_i h;rw[hle _ _ h];exact hv
   ·exact hv.elim
  ·split at hv
   ·rename_i h;rw[hle _ _ h];exact hv
   ·exact hv.elim
  ·exact hv.elim
 case iaddr n x i=>
  simp only[am]at hv ⊢
  split at hv
  ·split at hv
   ·exact hv
   ·split at hv
    ·rename_i h;rw[hle _ _ h];exact hv
    ·exact hv.elim
   ·exact hv
   ·exact hv.elim
  ·exact hv.elim
 case slice n x lo hi=>
  simp only[am]at hv ⊢
  split at hv
  ·exact hv
  ·split at hv
   ·rename_i h;rw[hle _ _ h];exact hv
   ·exact hv.elim
  ·exact hv
  ·exact hv
  ·exact hv.elim
 case bstr x=>
  simp only[am]at hv ⊢
  split at hv
  ·split at hv
   ·rename_i h;rw[hle _ _ h];exact hv
   ·exact hv.elim
  ·exact hv
  ·exact hv.elim
 case len x=>
  simp only[am]at hv ⊢
  split at hv
  ·exact hv
  ·split at hv
   ·rename_i h;rw[hle _ _ h];exact hv
   ·exact hv.elim
  ·exact hv
  ·exact hv
  ·exact hv.elim
 case box el im x=>cases im <;> exact hv
 case m mo xs=>exact qbw hle hv
 case mm mx xs=>
  match xs,hv with
  | [],hv=>exact hv
  | [x],hv=>exact hv
  | [x,y],hv=>exact hv
  | [x,y,z],hv=>exact hv
  | _::_::_::_::_,hv=>exact hv
 all_goals exact hv
theorem qim{n:Nat}{d:D}{Hr H:ab}{K K':List D->Prop}(hle:Pz Hr H)(hk:∀l,K l->K' l)(h:mJ n d Hr K):mJ n d H K':=by
 unfold mJ at h ⊢
 split at h <;> (try simp only at h ⊢)
 ·exact⟨h.1,hk _ h.2⟩
 ·split at h
  ·rename_i e
   rw[hle _ _ e]
   exact⟨h.1,h.2.1,hk _ h.2.2⟩
  ·exact h.elim
 ·exact hk _ h
 ·split at h
  ·rename_i e
   rw[hle _ _ e]
   exact⟨h.1,h.2.1,h.2.2.1,hk _ h.2.2.2⟩
  ·exact h.elim
theorem qeG{n:Nat}{d:D}{Hr H:ab}{K K':List D->Prop}(hle:Pz Hr H)(hk:∀l,K l->K' l)(h:uM n d Hr K):uM n d H K':=by
 unfold uM at h ⊢
 split at h
 ·exact⟨h.1,hk _ h.2⟩
 ·exact qim hle hk h
theorem qa7{S:Nat->Spc}{c:COp}{dst:Option Nat}{σ:Sg}{Hr H:ab}{K:D->ab->Prop}(hle:Pz Hr H)(hv:ay S c dst σ Hr H K):az S c dst σ H K:=by
 by_cases hro:c.isRead=true
 ·have h:=X0 hle ((jp hro).1 hv)
  cases c <;> first|exact h|(simp[COp.isRead]at hro;done)|skip
  ·rename_i el im x
   cases im
   ·simp[COp.isRead]at hro
   ·exact h
  ·rename_i mo xs
   cases mo <;> first|(simp[COp.isRead,MOp.isRead]at hro;done)|exact h
 ·cases c
  case call f args=>
   simp only[ay]at hv
   simp only[az]
   cases h:S f with
   | pure pc=>rw[h]at hv;exact hv
   | none=>rw[h]at hv;exact hv.elim
   | gen A hA=>
     rw[h]at hv
     cases dst with
     | none=>exact hv.elim
     | some t=>exact hv.2
  case callv f args=>
   simp only[ay]at hv
   simp only[az]
   split at hv
   ·rename_i e1
    rw[e1]
    split at hv
    ·rename_i pc h;simp only[h];exact hv
    ·exact hv.elim
   ·exact hv.elim
  case callb r f args=>
   simp only[ay]at hv
   simp only[az]
   cases h:S f with
   | pure pc=>rw[h]at hv;exact hv.elim
   | none=>rw[h]at hv;exact hv.elim
   | gen A hA=>rw[h]at hv;exact hv.2
  case tbx el x=>exact hv
  case box el im x=>
   cases im
   ·exact hv
   ·exact absurd rfl hro
  case store rt sz x y=>
   obtain⟨h1,h2,hv⟩:=hv
   simp only[az,bv]
   refine⟨h1,h2,?_⟩
   cases rt with
   | none=>exact hv.elim
   | some r=>
     simp only at hv
     split at hv
     ·rename_i id b off e1
      rw[e1]
      obtain⟨rfl,hv⟩:=hv
      exact hv
     ·rename_i id v n i off e1
      rw[e1]
      obtain⟨rfl,hv⟩:=hv
      exact hv
     ·exact hv.elim
  case srange x=>exact hv.elim
  case snext x=>exact hv.elim
  case append rt el n b x y=>
   simp only[ay]at hv
   simp only[az,bv]
   refine qeG hle ?_ hv
   intro es2 h
   cases rt with
   | none=>
     simp only at h
     split at h
     ·rename_i t e1 e2
      rw[e2]
      exact h
     ·exact h.elim
   | some r=>
     simp only at h
     split at h
     ·rename_i id v e1
      rw[e1]
      obtain⟨rfl,h⟩:=h
      simp only
      split at h
      ·rename_i e2
       rw[e2]
       exact h
      ·exact h.elim
     ·exact h.elim
  case clear n agg z x=>exact hv.elim
  case copy n x y=>exact hv.elim
  case appmk el n b agg z x c=>exact hv
  case alloc el z=>exact hv
  case nslice el n=>exact hv
  case mslice el n ps=>exact hv
  case mkslice el n b agg z l cc=>exact hv
  case m mo xs=>
   cases mo
   case mk=>exact hv
   case upd=>exact hv.elim
   case rng=>exact hv.elim
   case next=>exact hv.elim
   all_goals exact absurd rfl hro
  all_goals exact absurd rfl hro
theorem Xq{P:Program}{o:Oper}{a:Act}{w:World}{next:Act->World->Prop}(h:o.wp P a w next fun _ _ _=>False):∃a' w',next a' w':=by
 unfold Oper.wp at h
 generalize (execOp a.eval o).run P w=r at h
 cases r with
 | ok nx w'=>
   cases nx <;> simp only[Oper.upon]at h <;> first|exact⟨_,_,h⟩|exact h.elim|skip
   case enter f args=>
    obtain⟨e,w'',fr,hR,_⟩:=h []
    cases e with
    | returned v=>exact⟨_,_,hR⟩
    | panicked c=>exact hR.elim
    | outgrown=>obtain⟨_,_,hf⟩:=hR;exact hf.elim
   case row row args=>
    obtain⟨v,w'',hR,_⟩:=h default []
    exact⟨_,_,hR⟩
 | halt x w'=>cases x <;> simp only[Oper.upon]at h
section
variable {P:Program}{im:List Nat}{E:yL}{S:Nat->Spc}{ops:Array Oper}
theorem fY{N:Nat}{o:Oper}{x:CI}(h:ei P im N ops o=some x):∃g c,x= .op o.dst g c/\cx P im o=some c/\Es ops o=some g/\∀t,o.dst=some t->t < N:=by
 unfold ei at h
 simp only[qwR,qwN]at h
 obtain⟨c,hc,g,hg,h⟩:=h
 split at h
 ·rename_i hd
  cases h
  exact⟨g,c,rfl,hc,hg,qcD hd⟩
 ·cases h
theorem MF{o:Oper}{x:CI}{σ:Sg}{Hr H:ab}{a:Act}{w:World}{K:D->ab->Prop}{z:List PanicEntry->Prop}(hS:dh P z S x)(hx:ei P im E.N ops o=some x)(hst:St E σ H a w)(hle:Pz Hr H)(hv:LE S x σ Hr H K)
 {next:Act->World->Prop} {Q:Exit->Act->World->Prop} (hpan:∀c w',U4 E z c w'->Q (.panic c) a w') (hnext:∀r H' v w',K r H'->St E (fb σ o.dst r) H' (a.put o.dst v) w'->next (a.put o.dst v) w'):
 if Region.wanted o (yielded ops a.tmps)then o.wp P a w next Q else next (a.put o.dst undef) w:=by
 obtain⟨g,c,rfl,hc,hg,hdst⟩:=fY hx
 have hst0:=hst
 obtain⟨hd,hN,tp,hw,hr⟩:=hst
 have hgv:qn g σ (fun σ'=>σ'=σ->ay S c o.dst σ Hr H K) (fun σ'=>σ'=σ->K .undef H):=by
  cases g with
  | none=>exact fun _=>hv
  | some sb=>
    obtain⟨s,b⟩:=sb
    simp only[LE]at hv
    simp only[qn]
    split at hv
    ·rename_i e1
     try rw[e1]
     exact⟨fun e _=>hv.1 e,fun e _=>hv.2 e⟩
    ·rename_i e1
     try rw[e1]
     exact fun _=>hv
    ·exact hv.elim
 rcases Aj hg hr hgv with⟨hwant,hyes⟩|⟨hwant,hno⟩
 ·rw[if_pos hwant]
  exact Gk hS hc hw hd hN hr hdst (qa7 hle (hyes rfl)) hpan hnext
 ·rw[if_neg (by simp[hwant])]
  exact hnext _ _ _ _ (hno rfl) (hst0.skip o.dst hdst)
theorem Ug{o:Oper}{x:CI}{σ:Sg}{Hr H:ab}{a:Act}{w:World}{K:D->ab->Prop}(hS0:dh P Rc S x)(hx:ei P im E.N ops o=some x)(hst:St E σ H a w)(hle:Pz Hr H)(hv:LE S x σ Hr H K):
 ∃r H' a' w',K r H'/\St E (fb σ o.dst r) H' a' w':=by
 have h:=MF (Q:=fun _ _ _=>False) (next:=fun a' w'=>∃r H',K r H'/\St E (fb σ o.dst r) H' a' w') hS0 hx hst hle hv (fun c w' h=>h.1) (fun r H' v w' hk hs=>⟨r,H',hk,hs⟩)
 split at h
 ·obtain⟨a',w',r,H',hk,hs⟩:=Xq h
  exact⟨r,H',a',w',hk,hs⟩
 ·obtain⟨r,H',hk,hs⟩:=h
  exact⟨r,H',_,_,hk,hs⟩
def lz(x y:CI):Bool:=
 (match x.dst with|some d=>!y.reads.contains d|none=>true) && (match y.dst with|some e=>!x.reads.contains e|none=>true) &&
 (match x.dst,y.dst with|some d,some e=>d !=e|_,_=>true) && (match x.wid,y.wid with|some p,some q=>Tc p !=Tc q|_,_=>true)
theorem KS{x y:CI}(h:lz x y=true):(∀d,x.dst=some d->d∉y.reads)/\(∀e,y.dst=some e->e∉x.reads)/\(∀d e,x.dst=some d->y.dst=some e->d≠e)/\(∀p q,x.wid=some p->y.wid=some q->Tc p≠Tc q):=by
 unfold lz at h
 simp only[qwX]at h
 obtain⟨⟨⟨h1,h2⟩,h3⟩,h4⟩:=h
 refine⟨fun d hd=>?_,fun e he=>?_,fun d e hd he=>?_,fun p q hp hq=>?_⟩
 ·rw[hd]at h1;simpa using h1
 ·rw[he]at h2;simpa using h2
 ·rw[hd,he]at h3;simpa using h3
 ·rw[hp,hq]at h4;simpa using h4
theorem Og{H:ab}{p q:Option Nat}(h:∀d e,p=some d->q=some e->Tc d≠Tc e)(u:List (Nat×Res)):qQ (gi H p u) q=qQ H q:=by
 funext i
 simp only[qQ]
 by_cases hq:ET q i
 ·rw[if_pos hq,if_pos hq]
  cases q with
  | none=>exact hq.elim
  | some q=>
    cases p with
    | none=>simp only[gi,ET];exact if_neg id
    | some p=>
      have hn:¬ET (some p) i:=fun hp=>h p q rfl rfl (Eq.trans (Eq.symm hp) hq)
      simp only[gi]
      rw[if_neg hn]
 ·rw[if_neg hq,if_neg hq]
theorem XH{σ:Sg}{t s:Nat}(h:t≠s)(d e:D):fb (fb σ (some t) d) (some s) e=fb (fb σ (some s) e) (some t) d:=by
 funext k
 simp only[fb,upd]
 by_cases h1:k=s
 ·by_cases h2:k=t
  ·exact absurd (h2.symm.trans h1) h
  ·simp[h1,h2];intro h3;exact absurd h3.symm h
 ·simp[h1]
theorem Tp{σ:Sg}{t s:Option Nat}(h:∀d e,t=some d->s=some e->d≠e)(d e:D):fb (fb σ t d) s e=fb (fb σ s e) t d:=by
 cases t with
 | none=>rfl
 | some t=>
   cases s with
   | none=>rfl
   | some s=>exact XH (h t s rfl rfl) d e
theorem UW{H:ab}{t s:Option Nat}(h:∀d e,t=some d->s=some e->Tc d≠Tc e)(u v:List (Nat×Res)):gi (gi H t u) s v=gi (gi H s v) t u:=by
 funext i
 have hn:¬ (ET t i/\ET s i):=fun⟨h1,h2⟩=>by
  cases t with
  | none=>exact h1
  | some t=>cases s with
    | none=>exact h2
    | some s=>exact h t s rfl rfl (Eq.trans (Eq.symm h1) h2)
 by_cases h1:ET t i
 ·have h2:¬ET s i:=fun h2=>hn ⟨h1,h2⟩
  simp only[gi,h1,h2,if_true,if_false]
 ·simp only[gi,h1,if_false]
theorem Z7{σ:Sg}{t:Nat}{d:D}{l:List Nat}(h:t∉l):∀s∈l,fb σ (some t) d s=σ s:=by
 intro s hs
 simp only[fb,upd]
 rw[if_neg (fun e=>h (by rw[<-e];exact hs))]
theorem Fh{σ:Sg}{t:Option Nat}{d:D}{l:List Nat}(h:∀s,t=some s->s∉l):∀s∈l,fb σ t d s=σ s:=by
 cases t with
 | none=>exact fun _ _=>rfl
 | some t=>exact Z7 (h t rfl)
theorem P2{x:CI×ab}{K:Sg->ab->Prop} :∀ (l1 l2:List (CI×ab)) (σ:Sg) (H:ab),(∀y∈l1,lz y.1 x.1=true)->qdV S (l1++x::l2) σ H K->∀ (r0:ab),qQ H x.1.wid=r0->
 ∀ (pre:Prop) (out:D->List (Nat×Res)->Prop),(∀H,qQ H x.1.wid=r0->∀K,LE S x.1 σ x.2 H K↔ (pre/\∀d u,out d u->K d (gi H x.1.wid u)))->∀d u,out d u->qdV S (l1++l2) (fb σ x.1.dst d) (gi H x.1.wid u) K
 | [],l2,σ,H,_,hv,r0,hr0,pre,out,hform,d,u,hout=>((hform H hr0 _).1 hv).2 d u hout
 | y::l1,l2,σ,H,hap,hv,r0,hr0,pre,out,hform,d,u,hout=>by
   obtain⟨h1,h2,h3,h4⟩:=KS (hap y (by simp))
   obtain⟨qy,oy,hyf⟩:=JW S y.1 σ y.2 (qQ H y.1.wid)
   have hyf:∀H',qQ H' y.1.wid=qQ H y.1.wid->∀K,LE S y.1 σ y.2 H' K↔ (qy/\∀d u,oy d u->K d (gi H' y.1.wid u)):=hyf
   have hv':=(hyf H rfl _).1 hv
   have hcong:∀H K,LE S y.1 (fb σ x.1.dst d) y.2 H K↔LE S y.1 σ y.2 H K:=fun H K=>by
    exact Fo (Fh h2)
   have e1:qQ (gi H x.1.wid u) y.1.wid=qQ H y.1.wid:=Og (fun d e hd he q=>h4 e d he hd q.symm) u
   refine(hcong _ _).2 ((hyf _ e1 _).2 ⟨hv'.1,fun e v hev=>?_⟩)
   have hk:=hv'.2 e v hev
   have hform':∀H,qQ H x.1.wid=r0->∀K,LE S x.1 (fb σ y.1.dst e) x.2 H K↔ (pre/\∀d u,out d u->K d (gi H x.1.wid u)):=fun H hr K=>by
    rw[<-hform H hr K]
    exact Fo (Fh h1)
   have e2:qQ (gi H y.1.wid v) x.1.wid=r0:=by rw[<-hr0];exact Og h4 v
   have:=P2 l1 l2 (fb σ y.1.dst e) (gi H y.1.wid v) (fun z hz=>hap z (by simp[hz])) hk r0 e2 pre out hform' d u hout
   rwa [Tp h3 e d,UW h4 v u]at this
theorem Me{x:CI×ab}{K:Sg->ab->Prop} :∀ (l1 l2:List (CI×ab)) (σ:Sg) (H:ab) (a:Act) (w:World),(∀y∈l1,dh P Rc S y.1)->(∀y∈l1,lz y.1 x.1=true)->
 (∀y∈l1,∃o,ei P im E.N ops o=some y.1)->(l1.Pairwise fun y z=>∀t,ET y.1.wid t->z.2 t=none)->(∀y∈l1,∀t,ET y.1.wid t->x.2 t=none)->St E σ H a w->(∀y∈l1,Pz y.2 H)->Pz x.2 H->qdV S (l1++x::l2) σ H K->∀ (r0:ab),qQ H x.1.wid=r0->
 ∀ (pre:Prop) (out:D->List (Nat×Res)->Prop),(∀H,qQ H x.1.wid=r0->∀K,LE S x.1 σ x.2 H K↔ (pre/\∀d u,out d u->K d (gi H x.1.wid u)))->pre
 | [],l2,σ,H,a,w,_,_,_,_,_,_,_,_,hv,r0,hr0,pre,out,hform=>((hform H hr0 _).1 hv).1
 | y::l1,l2,σ,H,a,w,hqu,hap,hcomp,hban,hbx,hst,hle,hlx,hv,r0,hr0,pre,out,hform=>by
   obtain⟨h1,h2,h3,h4⟩:=KS (hap y (by simp))
   obtain⟨o,ho⟩:=hcomp y (by simp)
   have hdst:y.1.dst=o.dst:=by
    obtain⟨g,c,hxe,_⟩:=fY ho;rw[hxe];rfl
   obtain⟨hb1,hb2⟩:=qyJ.1 hban
   have keep:∀ (Hr:ab),Pz Hr H->(∀t,ET y.1.wid t->Hr t=none)->∀u,Pz Hr (gi H y.1.wid u):=fun Hr hh hb u i r hi=>by
    by_cases hw:ET y.1.wid i
    ·rw[hb i hw]at hi;cases hi
    ·simp only[gi]
     rw[if_neg hw]
     exact hh i r hi
   obtain⟨qy,oy,hyf⟩:=JW S y.1 σ y.2 (qQ H y.1.wid)
   have hyf:∀H',qQ H' y.1.wid=qQ H y.1.wid->∀K,LE S y.1 σ y.2 H' K↔ (qy/\∀d u,oy d u->K d (gi H' y.1.wid u)):=hyf
   have hv':=(hyf H rfl _).1 hv
   have hv2:LE S y.1 σ y.2 H fun d H'=>qdV S (l1++x::l2) (fb σ y.1.dst d) H' K/\((∀z∈l1,Pz z.2 H')/\Pz x.2 H')/\qQ H' x.1.wid=r0:=(hyf H rfl _).2 ⟨hv'.1,fun d u hout=>⟨hv'.2 d u hout,⟨fun z hz=>keep z.2 (hle z (by simp[hz])) (hb1 z hz) u,keep x.2 hlx (hbx y (by simp)) u⟩,by rw[<-hr0];exact Og h4 u⟩⟩
   obtain⟨r,H',a',w',⟨hk,hle',hr'⟩,hst'⟩:=Ug (hqu y (by simp)) ho hst (hle y (by simp)) hv2
   rw[<-hdst]at hst'
   have hform':∀H,qQ H x.1.wid=r0->∀K,LE S x.1 (fb σ y.1.dst r) x.2 H K↔ (pre/\∀d u,out d u->K d (gi H x.1.wid u)):=fun H hr K=>by
    rw[<-hform H hr K]
    exact Fo (Fh h1)
   exact Me l1 l2 _ H' a' w' (fun z hz=>hqu z (by simp[hz])) (fun z hz=>hap z (by simp[hz])) (fun z hz=>hcomp z (by simp[hz])) hb2 (fun z hz=>hbx z (by simp[hz])) hst' hle'.1 hle'.2 hk r0 hr' pre out hform'
end
end Go.Gv

namespace Go.Gv
def F0(o:Oper):List Nat:=(o.after.toList.filter fun e=>Region.binds .any e).map (·.on)
def Pp:List Oper->List (List Nat)->List (List Nat)
 | [],acc=>acc
 | o::r,acc=>Pp r (acc++ [((F0 o) ++ (F0 o).flatMap fun j=>(acc[j]?).getD []).eraseDups])
def WW(ops:Array Oper):List (List Nat):=Pp ops.toList []
def Up(an:List (List Nat))(j i:Nat):Bool:=((an[j]?).getD []).contains i
def Ui(ops:Array Oper)(cis:List CI)(m:Nat):Bool:=
 (List.range ops.size).all (fun i=>((ops[i]?).map fun o=>(F0 o).all (· < i)).getD true) &&
 (List.range ops.size).all (fun j=>decide (j < m)||(List.range j).all fun i=>Up (WW ops) j i) &&
 (List.range m).all (fun j=>(List.range j).all fun i=>Up (WW ops) j i||(match cis[i]?,cis[j]? with|some x,some y=>lz x y|_,_=>false)) &&
 decide (m<=ops.size)
def wH(listed:Array Bool)(i:Nat):Prop:=listed.getD i false=true
def DC(ops:Array Oper)(listed:Array Bool):Prop:=∀i o,ops[i]? =some o->wH listed i->∀j∈F0 o,wH listed j
theorem LX{α:Type}[BEq α][LawfulBEq α]{l:List α}{x:α}(h:x∈l.eraseDups):x∈l:=by
 simpa using h
theorem qdm{ops:Array Oper}{listed:Array Bool}(hdc:DC ops listed):∀ (r:List Oper) (acc:List (List Nat)),(∀ (k:Nat),r[k]? =ops[acc.length+k]?)->
 (∀ (k:Nat) (l:List Nat),acc[k]? =some l->(∀o,ops[k]? =some o->∀j∈F0 o,wH listed j)->∀j∈l,wH listed j)->
 ∀ (k:Nat) (l:List Nat),(Pp r acc)[k]? =some l->(∀o,ops[k]? =some o->∀j∈F0 o,wH listed j)->∀j∈l,wH listed j
 | [],acc,_,hacc=>hacc
 | o::r,acc,hr,hacc=>by
   simp only[Pp]
   refine qdm hdc r _ (fun k=>?_) (fun k l hl hd j hj=>?_)
   ·have:=hr (k+1)
    simp only[qxT]at this
    rw[this]
    congr 1
    simp;omega
   ·have ho:ops[acc.length]? =some o:=by
     have:=hr 0
     simpa using this.symm
    by_cases hk:k < acc.length
    ·rw[qw9 hk]at hl
     exact hacc k l hl hd j hj
    ·rw[qwZ (by omega)]at hl
     have hk0:k -acc.length=0:=by
      have:=(qwP.1 hl).1
      simp at this;omega
     have hke:k=acc.length:=by omega
     subst hke
     rw[hk0]at hl
     simp at hl
     subst hl
     have hd':=hd o ho
     rcases qwU.1 (LX hj)with hj|hj
     ·exact hd' j hj
     ·obtain⟨q,hq,hjq⟩:=qxU.1 hj
      cases hacq:acc[q]? with
      | none=>rw[hacq]at hjq;simp at hjq
      | some lq=>
        rw[hacq]at hjq
        simp at hjq
        exact hacc q lq hacq (fun oq hoq=>hdc q oq hoq (hd' q hq)) j hjq
theorem Ep{ops:Array Oper}{listed:Array Bool}(hdc:DC ops listed){j i:Nat}(h:Up (WW ops) j i=true)(hj:∀o,ops[j]? =some o->∀k∈F0 o,wH listed k):wH listed i:=by
 unfold Up at h
 cases hl:(WW ops)[j]? with
 | none=>rw[hl]at h;simp at h
 | some l=>
   rw[hl]at h
   exact qdm hdc ops.toList [] (fun k=>by simp) (fun k l h=>by simp at h) j l hl hj i (by simpa using h)
theorem sw{ops:Array Oper}{listed:Array Bool}{i:Nat} :i∈Region.ready .any ops listed↔i < ops.size/\listed.getD i true=false/\∀o,ops[i]? =some o->∀j∈F0 o,wH listed j:=by
 unfold Region.ready
 rw[qx6,qyn]
 constructor
 ·rintro⟨h1,h2⟩
  simp only[qwX,qyu]at h2
  refine⟨h1,h2.1,fun o ho j hj=>?_⟩
  rw[ho]at h2
  simp only[qyG,qxz,qzz]at h2
  unfold F0 at hj
  obtain⟨e,he,rfl⟩:=qw3.1 hj
  rw[qx6]at he
  obtain⟨k,hk,hke⟩:=List.mem_iff_getElem.1 he.1
  have:=h2.2 k (by simpa using hk)
  have hke':o.after[k]'(by simpa using hk)=e:=by simpa using hke
  rw[hke',he.2]at this
  simpa [wH]using this
 ·rintro⟨h1,h2,h3⟩
  have ho:ops[i]? =some ops[i]:=by simp[h1]
  refine⟨h1,?_⟩
  simp only[h2,Bool.not_false,qyC,ho,qyG,qxz,qzz]
  intro k hk
  by_cases hb:Region.binds .any (ops[i].after[k])=true
  ·have:=h3 _ ho (ops[i].after[k]).on (by
    unfold F0
    exact qw3.2 ⟨_,qx6.2 ⟨by simp,hb⟩,rfl⟩)
   simp only[wH]at this
   simp[this]
  ·simp[hb]
theorem Kt{listed:Array Bool}{i k:Nat}(hi:i < listed.size):wH (listed.setIfInBounds i true) k↔k=i\/wH listed k:=by
 simp only[wH,qxo,qya]
 by_cases h:i=k
 ·subst h;simp[hi]
 ·rw[if_neg h]
  constructor
  ·exact .inr
  ·rintro(rfl|h2)
   ·exact absurd rfl h
   ·exact h2
theorem qcQ{ops:Array Oper}{listed:Array Bool}(hdc:DC ops listed)(hs:listed.size=ops.size){i:Nat}(hi:i∈Region.ready .any ops listed):DC ops (listed.setIfInBounds i true):=by
 obtain⟨h1,h2,h3⟩:=sw.1 hi
 intro k o ho hk j hj
 rw[Kt (by omega)]at hk ⊢
 rcases hk with rfl|hk
 ·exact .inr (h3 o ho j hj)
 ·exact .inr (hdc k o ho hk j hj)
theorem nq{ops:Array Oper}{listed:Array Bool}(hs:listed.size=ops.size){i:Nat}(hi:i < ops.size):listed.getD i true=false↔ ¬wH listed i:=by
 simp only[wH,qxo]
 have:listed[i]? =some listed[i]:=by simp[hs,hi]
 rw[this]
 simp
section
variable {P:Program}{im:List Nat}{E:yL}{S:Nat->Spc}{ops:Array Oper}
theorem tA{cis:List CI}{N:Nat}(h:jD P im N ops=some cis):cis.length=ops.size/\∀ (i:Nat) (o:Oper),ops[i]? =some o->∃x,cis[i]? =some x/\ei P im N ops o=some x:=by
 unfold jD at h
 have key:∀ (l:List Oper) (cs:List CI),l.mapM (ei P im N ops)=some cs->cs.length=l.length/\∀ (i:Nat) (o:Oper),l[i]? =some o->∃x,cs[i]? =some x/\ei P im N ops o=some x:=by
  intro l
  induction l with
  | nil=>intro cs h;simp at h;subst h;exact⟨rfl,fun i o h=>by simp at h⟩
  | cons o l ih=>
    intro cs h
    rw[qxu]at h
    simp only[qwR,qwN]at h
    obtain⟨x,hx,y,hy,h⟩:=h
    cases h
    obtain⟨h1,h2⟩:=ih y hy
    refine⟨by simp[h1],fun i q hq=>?_⟩
    cases i with
    | zero=>simp at hq;subst hq;exact⟨x,rfl,hx⟩
    | succ i=>simp at hq;simpa using h2 i q hq
 obtain⟨h1,h2⟩:=key _ _ h
 exact⟨by simpa using h1,fun i o ho=>h2 i o (by simpa using ho)⟩
theorem IH{Q:Exit->Act->World->Prop}{K:Sg->ab->Prop}{z:List PanicEntry->Prop}(hpan:∀c a w',a.defers=E.ds->U4 E z c w'->Q (.panic c) a w')(hQ:∀σ H a w,St E σ H a w->K σ H->Q .normal a w)
 (hC0:∀i o,ops[i]? =some o->∀j∈F0 o,j < i) {m:Nat} (hC2:∀j,m<=j->j < ops.size->∀i,i < j->Up (WW ops) j i=true):
 ∀ (tl:List CI),(∀x∈tl,dh P z S x)->∀ (k:Nat) (listed:Array Bool),m<=k->k<=ops.size->listed.size=ops.size->(∀i,i < ops.size->(wH listed i↔i < k))->DC ops listed->
  ((ops.toList.drop k).mapM (ei P im E.N ops)=some (tl.filter CI.real))->∀ (σ:Sg) (H:ab) (a:Act) (w:World),St E σ H a w->Dp S tl σ H K->
  wpAny P .any ops Q (ops.size -k) listed a w
 | [],hS,k,listed,hmk,hk,hs,hd,hdc,hm,σ,H,a,w,hst,hv=>by
   have hkn:k=ops.size:=by
    cases hdr:ops.toList.drop k with
    | nil=>
      have:=congrArg List.length hdr
      simp at this
      omega
    | cons o r=>
      rw[hdr,qxu]at hm
      simp only[qwR,qwN,List.filter_nil]at hm
      obtain⟨x,_,y,_,h⟩:=hm
      cases h
   subst hkn
   rw[qyq]
   refine⟨?_,hQ σ H a w hst hv⟩
   rw[List.eq_nil_iff_forall_not_mem]
   intro i hi
   obtain⟨h1,h2,_⟩:=sw.1 hi
   rw[nq hs h1]at h2
   exact h2 ((hd i h1).2 h1)
 | .frz t n::tl,hS,k,listed,hmk,hk,hs,hd,hdc,hm,σ,H,a,w,hst,hv=>by
   simp only[Dp]at hv
   obtain⟨σ',H',hst',hv'⟩:=M2 hst hv
   exact IH hpan hQ hC0 hC2 tl (fun x hx=>hS x (by simp[hx])) k listed hmk hk hs hd hdc (by simpa [qx2,CI.real]using hm) σ' H' a w hst' hv'
 | .op dst g c::tl,hS,k,listed,hmk,hk,hs,hd,hdc,hm,σ,H,a,w,hst,hv=>by
   have hkn:k < ops.size:=by
    cases hdr:ops.toList.drop k with
    | nil=>rw[hdr]at hm;simp[qx2,CI.real]at hm
    | cons o r=>
      have:=congrArg List.length hdr
      simp at this
      omega
   have hdrop:ops.toList.drop k=ops[k]::ops.toList.drop (k+1):=by
    rw[qxr (by simpa using hkn)]
    simp
   rw[hdrop,qxu]at hm
   simp only[qwR,qwN,qx2,CI.real,if_true]at hm
   obtain⟨x,hx,y,hy,h⟩:=hm
   cases h
   obtain⟨g',c',hxe,hc,hg,hdst⟩:=fY hx
   cases hxe
   have hfu:ops.size -k=(ops.size - (k+1)) +1:=by omega
   rw[hfu]
   have hok:ops[k]? =some ops[k]:=by simp[hkn]
   have hkready:k∈Region.ready .any ops listed:=sw.2 ⟨hkn,(nq hs hkn).2 (fun h=>by have:=(hd k hkn).1 h;omega),fun o ho j hj=>by
    have hjk:=hC0 k o ho j hj
    exact(hd j (by omega)).2 hjk⟩
   refine⟨fun h=>(by rw[h]at hkready;cases hkready),fun i hi=>?_⟩
   obtain⟨h1,h2,h3⟩:=sw.1 hi
   rw[nq hs h1]at h2
   have hik:i=k:=by
    rcases qzA i k with h|h|h
    ·exact absurd ((hd i h1).2 h) h2
    ·exact h
    ·exfalso
     have:=Ep hdc (hC2 i (by omega) h1 k h) h3
     have:=(hd k hkn).1 this
     omega
   subst hik
   unfold wpOp
   rw[hok]
   simp only[]
   have hst0:=hst
   obtain⟨hdf,hN,tp,hw,hr⟩:=hst
   simp only[Dp]at hv
   have hnext:∀ (σ':Sg) (H':ab) (a':Act) (w':World),St E σ' H' a' w'->Dp S tl σ' H' K->wpAny P .any ops Q (ops.size - (i+1)) (listed.setIfInBounds i true) a' w':=fun σ' H' a' w' hst' hv'=>
    IH hpan hQ hC0 hC2 tl (fun x hx=>hS x (by simp[hx])) (i+1) _ (by omega) (by omega) (by simpa using hs) (fun j hj=>by rw[Kt (by omega),hd j hj];omega) (qcQ hdc hs hi) hy σ' H' a' w' hst' hv'
   rcases Aj hg hr hv with⟨hwant,hyes⟩|⟨hwant,hno⟩
   ·rw[if_pos hwant]
    exact .inl (Gk (hS (.op _ g c) (qzq ..)) hc hw hdf hN hr hdst hyes (fun c w'=>hpan c a w' hdf) (fun r H' x w' hk hst'=>hnext _ _ _ _ hst' hk))
   ·rw[if_neg (by simp[hwant])]
    exact hnext _ _ _ _ (hst0.skip _ hdst) hno
theorem qe1{Q:Exit->Act->World->Prop}{K:Sg->ab->Prop}{z:List PanicEntry->Prop}(hpan:∀c a w',a.defers=E.ds->U4 E z c w'->Q (.panic c) a w')(hQ:∀σ H a w,St E σ H a w->K σ H->Q .normal a w){cis:List CI}(hcis:jD P im E.N ops=some cis)
 (hC0:∀i o,ops[i]? =some o->∀j∈F0 o,j < i) {m:Nat} (hS:∀j x,j < m->cis[j]? =some x->dh P z S x) (hquiet:∀j i x y,j < i->i < m->cis[j]? =some x->cis[i]? =some y->lz x y=true->dh P Rc S x) (hm:m<=ops.size) (hC2:∀j,m<=j->j < ops.size->∀i,i < j->Up (WW ops) j i=true)
 (hC1:∀j,j < m->∀i,i < j->Up (WW ops) j i=true\/ ∃x y,cis[i]? =some x/\cis[j]? =some y/\lz x y=true) {tl:List CI} (htl:(ops.toList.drop m).mapM (ei P im E.N ops)=some (tl.filter CI.real)) (hStl:∀x∈tl,dh P z S x) {Hr:Nat->ab}
 (hban:∀i j x t,i < m->j < m->i≠j->cis[i]? =some x->ET x.wid t->Hr j t=none\/Up (WW ops) i j=true) (hbanc:∀i j x t,i < m->j < m->i < j->cis[i]? =some x->ET x.wid t->Hr j t=none):
 ∀ (n:Nat) (us:List Nat) (listed:Array Bool),us.length=n->us.Pairwise (· < ·)->(∀i∈us,i < m)->listed.size=ops.size->(∀i,i < ops.size->(wH listed i↔i < m/\i∉us))->DC ops listed->
  ∀ (σ:Sg) (H:ab) (a:Act) (w:World),St E σ H a w->(∀i∈us,Pz (Hr i) H)->qdV S (us.map fun i=>((cis[i]?).getD (.frz 0 0),Hr i)) σ H (fun σ H=>Dp S tl σ H K)->
  wpAny P .any ops Q (us.length+ (ops.size -m)) listed a w:=by
 obtain⟨hclen,hcget⟩:=tA hcis
 intro n
 induction n with
 | zero=>
   intro us listed hn hpw hus hs hd hdc σ H a w hst hle hv
   have:us=[]:=qw5 hn
   subst this
   simp only[qyT,qxE]
   exact IH hpan hQ hC0 hC2 tl hStl m listed (qwY _) hm hs (fun i hi=>by rw[hd i hi];simp) hdc htl σ H a w hst hv
 | succ n ih=>
   intro us listed hn hpw hus hs hd hdc σ H a w hst hle hv
   have hfu:us.length+ (ops.size -m)=(n+ (ops.size -m)) +1:=by omega
   rw[hfu]
   have hne:Region.ready .any ops listed≠ []:=by
    cases us with
    | nil=>simp at hn
    | cons u us=>
      have hum:=hus u (by simp)
      have:u∈Region.ready .any ops listed:=sw.2 ⟨by omega,(nq hs (by omega)).2 (fun h=>((hd u (by omega)).1 h).2 (by simp)),fun o ho j hj=>by
       have hju:=hC0 u o ho j hj
       refine(hd j (by omega)).2 ⟨by omega,fun hmem=>?_⟩
       rcases qwT.1 hmem with rfl|hmem
       ·omega
       ·have:=qyH hpw hmem
        omega⟩
      intro h
      rw[h]at this
      cases this
   refine⟨fun h=>absurd h hne,fun i hi=>?_⟩
   obtain⟨h1,h2,h3⟩:=sw.1 hi
   rw[nq hs h1]at h2
   have hiu:i∈us:=by
    by_cases him:i < m
    ·by_cases hmem:i∈us
     ·exact hmem
     ·exact absurd ((hd i h1).2 ⟨him,hmem⟩) h2
    ·exfalso
     cases us with
     | nil=>simp at hn
     | cons u us=>
       have hum:=hus u (by simp)
       have:=Ep hdc (hC2 i (by omega) h1 u (by omega)) h3
       exact((hd u (by omega)).1 this).2 (by simp)
   obtain⟨us1,us2,rfl⟩:=qzr hiu
   have him:i < m:=hus i hiu
   have hoi:ops[i]? =some ops[i]:=by simp[h1]
   obtain⟨x,hxi,hx⟩:=hcget i _ hoi
   have hlt1:∀j∈us1,j < i:=fun j hj=>by
    have:=qyl.1 hpw
    exact this.2.2 j hj i (by simp)
   have hap:∀y∈us1.map (fun i=>((cis[i]?).getD (.frz 0 0),Hr i)),lz y.1 x=true:=by
    intro y hy
    obtain⟨j,hj,rfl⟩:=qw3.1 hy
    have hji:=hlt1 j hj
    rcases hC1 i him j hji with h|⟨x',y',e1,e2,e3⟩
    ·exfalso
     have:=Ep hdc h h3
     exact((hd j (by omega)).1 this).2 (by simp[hj])
    ·rw[hxi]at e2
     cases e2
     simp only[e1,qxz]
     exact e3
   rw[qyi,qxf,hxi]at hv
   simp only[qxz]at hv
   obtain⟨pre,out,hform⟩:=JW S x σ (Hr i) (qQ H x.wid)
   have hform:∀H',qQ H' x.wid=qQ H x.wid->∀K,LE S x σ (Hr i) H' K↔ (pre/\∀d u,out d u->K d (gi H' x.wid u)):=hform
   have hgx:∀ (j:Nat),j < i->∃y o,cis[j]? =some y/\ei P im E.N ops o=some y:=fun j hj=>by
    obtain⟨y',hy1,hy2⟩:=hcget j ops[j] (by simp)
    exact⟨y',_,hy1,hy2⟩
   have hpre:=Me (x:=(x,Hr i)) (im:=im) (ops:=ops) _ _ σ H a w (fun y hy=>by
    obtain⟨j,hj,rfl⟩:=qw3.1 hy
    obtain⟨y',o',hy1,hy2⟩:=hgx j (hlt1 j hj)
    simp only[hy1,qxz]
    have hap1:=hap ((cis[j]?).getD (.frz 0 0),Hr j) (qw3.2 ⟨j,hj,rfl⟩)
    simp only[hy1,qxz]at hap1
    exact hquiet j i y' x (hlt1 j hj) him hy1 hxi hap1) hap (fun y hy=>by
    obtain⟨j,hj,rfl⟩:=qw3.1 hy
    obtain⟨y',o',hy1,hy2⟩:=hgx j (hlt1 j hj)
    simp only[hy1,qxz]
    exact⟨_,hy2⟩) (by
    rw[qzB]
    refine(qyl.1 hpw).1.imp_of_mem ?_
    intro j k hj hk hjk t ht
    obtain⟨y',o',hy1,hy2⟩:=hgx j (hlt1 j hj)
    simp only[hy1,qxz]at ht
    have:=hlt1 k hk
    exact hbanc j k y' t (by omega) (by omega) hjk hy1 ht) (fun y hy t ht=>by
    obtain⟨j,hj,rfl⟩:=qw3.1 hy
    have hji:=hlt1 j hj
    obtain⟨y',o',hy1,hy2⟩:=hgx j hji
    simp only[hy1,qxz]at ht
    exact hbanc j i y' t (by omega) (by omega) hji hy1 ht) hst (fun y hy=>by
    obtain⟨j,hj,rfl⟩:=qw3.1 hy
    exact hle j (by simp[hj])) (hle i (by simp)) hv _ rfl pre out hform
   have htake:=P2 (x:=(x,Hr i)) _ _ σ H hap hv _ rfl pre out hform
   obtain⟨g,c,hxe,_,_,_⟩:=fY hx
   have hdx:x.dst=(ops[i]).dst:=by rw[hxe];rfl
   have hvx:LE S x σ (Hr i) H fun d H'=>qdV S ((us1++us2).map fun i=>((cis[i]?).getD (.frz 0 0),Hr i)) (fb σ x.dst d) H' (fun σ H=>Dp S tl σ H K)/\∀j∈us1++us2,Pz (Hr j) H':=(hform H rfl _).2 ⟨hpre,fun d u hout=>⟨by rw[qyi];exact htake d u hout,fun j hj k r hk=>by
    have hju:j∈us1++i::us2:=by
     rcases qwU.1 hj with h|h <;> simp[h]
    have hle':=hle j hju
    have hji:i≠j:=fun e=>by
     subst e
     have:=qyl.1 hpw
     rcases qwU.1 hj with h|h
     ·have:=hlt1 i h;omega
     ·have h4:=qyH this.2.1 h;omega
    have hjm:=hus j hju
    by_cases hw:ET x.wid k
    ·rcases hban i j x k him hjm hji hxi hw with h|h
     ·rw[h]at hk
      cases hk
     ·have h5:=Ep hdc h h3
      exact absurd hju ((hd j (by omega)).1 h5).2
    ·simp only[gi]
     rw[if_neg hw]
     exact hle' k r hk⟩⟩
   unfold wpOp
   rw[hoi]
   simp only[]
   have hlen:(us1++us2).length=n:=by simp at hn ⊢;omega
   have hsub:(us1++us2).Pairwise (· < ·):=hpw.sublist (by simp)
   have hnd:i∉us1++us2:=by
    have:=qyl.1 hpw
    intro h
    rcases qwU.1 h with h|h
    ·have:=hlt1 i h;omega
    ·have h4:=qyH this.2.1 h;omega
   have hps:=MF (Q:=Q) (next:=wpAny P .any ops Q (n+ (ops.size -m)) (listed.setIfInBounds i true)) (hS i x him hxi) hx hst (hle i (by simp)) hvx (fun c w'=>hpan c a w' hst.1) (fun r H' v w' hk hst'=>by
    rw[<-hdx]at hst'
    have:=ih (us1++us2) (listed.setIfInBounds i true) hlen hsub (fun j hj=>hus j (by simp at hj ⊢;rcases hj with h|h <;> simp[h])) (by simpa using hs) (fun j hj=>by
     rw[Kt (by omega),hd j hj]
     constructor
     ·rintro(rfl|⟨ha,hb⟩)
      ·exact⟨him,hnd⟩
      ·exact⟨ha,fun h=>hb (by simp at h ⊢;rcases h with h|h <;> simp[h])⟩
     ·rintro⟨ha,hb⟩
      by_cases hji:j=i
      ·exact .inl hji
      ·exact .inr ⟨ha,fun h=>hb (by simp at h ⊢;rcases h with h|h|h;exact .inl h;exact absurd h hji;exact .inr h)⟩) (qcQ hdc hs hi) _ H' _ w' hst' hk.2 hk.1
    rw[hlen,hdx]at this
    exact this)
   split
   ·rename_i hw
    rw[if_pos hw]at hps
    exact .inl hps
   ·rename_i hw
    rw[if_neg hw]at hps
    exact hps
end
end Go.Gv
