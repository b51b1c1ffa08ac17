/- T4 -/
import Derived.Test.YtnffegdacbdhmaaGreatDoorGd08
set_option linter.all false
namespace Go.Gv
def Tx(Hr H:ab):Prop:=∀i r,Hr i=some r->H i=some r
def qfz{d:D}{Hr H:ab}{K K':List D->Prop}(hle:Tx Hr H)(hk:∀l,K l->K' l)(h:Gs d Hr K):Gs d H K':=by
 unfold Gs at h ⊢;split at h<;>(try simp only at h ⊢)
 ·exact hk _ h
 ·exact hk _ h
 ·split at h
  ·rename_i e;rw[hle _ _ e];exact⟨h.1,hk _ h.2⟩
  ·exact h.elim
def qfq{mo:MOp}{ds:List D}{Hr H:ab}{K:D->Prop}(hle:Tx Hr H)(hv:yd mo ds Hr K):yd mo ds H K:=by
 unfold yd at hv ⊢;split at hv
 ·exact qfz hle (λ_ h=>h) hv
 ·exact qfz hle (λ_ h=>h) hv
 ·refine⟨hv.1,?_⟩;have hv:=hv.2;split at hv
  ·rename_i e;rw[hle _ _ e];exact hv
  ·rename_i e;rw[hle _ _ e];refine⟨hv.1,?_⟩;have hv:=hv.2;unfold Du at hv ⊢;split at hv
   ·rename_i e;rw[hle _ _ e];exact hv
   ·exact hv.elim
  ·exact hv.elim
 ·exact hv
 ·exact hv.elim
theorem qb3{c:COp}{σ:Sg}{Hr H:ab}{K:D->Prop}(hle:Tx Hr H)(hv:aj c σ Hr K):aj c σ H K:=by
 cases c
 case load agg sz x=>
  simp only[aj]at hv ⊢;split at hv
  ·exact hv
  ·split at hv
   ·rename_i h;rw[hle _ _ h];exact hv
   ·exact hv.elim
  ·split at hv
   ·rename_i h;rw[hle _ _ h];exact hv
   ·exact hv.elim
  ·exact hv.elim
 case iaddr n x i=>
  simp only[aj]at hv ⊢;split at hv
  ·split at hv
   ·exact hv
   ·split at hv
    ·rename_i h;rw[hle _ _ h];exact hv
    ·exact hv.elim
   ·exact hv
   ·exact hv.elim
  ·exact hv.elim
 case slice n x lo hi=>
  simp only[aj]at hv ⊢;split at hv
  ·exact hv
  ·split at hv
   ·rename_i h;rw[hle _ _ h];exact hv
   ·exact hv.elim
  ·exact hv
  ·exact hv
  ·exact hv.elim
 case bstr x=>
  simp only[aj]at hv ⊢;split at hv
  ·split at hv
   ·rename_i h;rw[hle _ _ h];exact hv
   ·exact hv.elim
  ·exact hv
  ·exact hv.elim
 case len x=>
  simp only[aj]at hv ⊢;split at hv
  ·exact hv
  ·split at hv
   ·rename_i h;rw[hle _ _ h];exact hv
   ·exact hv.elim
  ·exact hv
  ·exact hv
  ·exact hv.elim
 case box el im x=>cases im<;>exact hv
 case m mo xs=>exact qfq hle hv
 case mm mx xs=>
  match xs,hv with
  | [],hv=>exact hv
  | [x],hv=>exact hv
  | [x,y],hv=>exact hv
  | [x,y,z],hv=>exact hv
  | _::_::_::_::_,hv=>exact hv
 all_goals exact hv
def qlQ{n:Nat}{d:D}{Hr H:ab}{K K':List D->Prop}(hle:Tx Hr H)(hk:∀l,K l->K' l)(h:kD n d Hr K):kD n d H K':=by
 unfold kD at h ⊢;split at h<;>(try simp only at h ⊢)
 ·exact⟨h.1,hk _ h.2⟩
 ·split at h
  ·rename_i e;rw[hle _ _ e];exact⟨h.1,h.2.1,hk _ h.2.2⟩
  ·exact h.elim
 ·exact hk _ h
 ·split at h
  ·rename_i e;rw[hle _ _ e];exact⟨h.1,h.2.1,h.2.2.1,hk _ h.2.2.2⟩
  ·exact h.elim
def qiC{n:Nat}{d:D}{Hr H:ab}{K K':List D->Prop}(hle:Tx Hr H)(hk:∀l,K l->K' l)(h:vM n d Hr K):vM n d H K':=by
 unfold vM at h ⊢;split at h
 ·exact⟨h.1,hk _ h.2⟩
 ·exact qlQ hle hk h
theorem qe2{S:Nat->Spc}{c:COp}{dst:Option Nat}{σ:Sg}{Hr H:ab}{K:D->ab->Prop}(hle:Tx Hr H)(hv:ax S c dst σ Hr H K):aI S c dst σ H K:=by
 by_cases hro:c.isRead=true
 ·have h:=qb3 hle ((iO hro).1 hv);cases c<;>first|exact h|(simp[COp.isRead]at hro;done)|skip
  ·rename_i el im x;cases im
   ·simp[COp.isRead]at hro
   ·exact h
  ·rename_i mo xs;cases mo<;>first|(simp[COp.isRead,MOp.isRead]at hro;done)|exact h
 ·cases c
  case call f args=>
   simp only[ax]at hv;simp only[aI];cases h:S f with
   |pure pc=>rw[h]at hv;exact hv
   |none=>rw[h]at hv;exact hv.elim
   | gen A hA=>
     rw[h]at hv;cases dst with
     |none=>exact hv.elim
     |some t=>exact hv.2
  case callv f args=>
   simp only[ax]at hv;simp only[aI];split at hv
   ·rename_i e1;rw[e1];split at hv
    ·rename_i pc h;simp only[h];exact hv
    ·exact hv.elim
   ·exact hv.elim
  case callb r f args=>
   simp only[ax]at hv;simp only[aI];cases h:S f with
   |pure pc=>rw[h]at hv;exact hv.elim
   |none=>rw[h]at hv;exact hv.elim
   |gen A hA=>rw[h]at hv;exact hv.2
  case tbx el x=>exact hv
  case box el im x=>
   cases im
   ·exact hv
   ·exact absurd rfl hro
  case store rt sz x y=>
   obtain⟨h1,h2,hv⟩:=hv;simp only[aI,bk];refine⟨h1,h2,?_⟩;cases rt with
   |none=>exact hv.elim
   | some r=>
     simp only at hv;split at hv
     ·rename_i id b off e1;rw[e1];obtain⟨rfl,hv⟩:=hv;exact hv
     ·rename_i id v n i off e1;rw[e1];obtain⟨rfl,hv⟩:=hv;exact hv
     ·exact hv.elim
  case srange x=>exact hv.elim
  case snext x=>exact hv.elim
  case append rt el n b x y=>
   simp only[ax]at hv;simp only[aI,bk];refine qiC hle ?_ hv;intro es2 h;cases rt with
   | none=>
     simp only at h;split at h
     ·rename_i t e1 e2;rw[e2];exact h
     ·exact h.elim
   | some r=>
     simp only at h;split at h
     ·rename_i id v e1;rw[e1];obtain⟨rfl,h⟩:=h;simp only;split at h
      ·rename_i e2;rw[e2];exact h
      ·exact h.elim
     ·exact h.elim
  case clear n agg z x=>exact hv.elim
  case copy n x y=>exact hv.elim
  case appmk el n b agg z x c=>exact hv
  case alloc el z=>exact hv
  case nslice el n=>exact hv
  case mslice el n ps=>exact hv
  case mkslice el n b agg z l cc=>exact hv
  case m mo xs=>
   cases mo
   case mk=>exact hv
   case upd=>exact hv.elim
   case rng=>exact hv.elim
   case next=>exact hv.elim
   case del=>exact hv.elim
   all_goals exact absurd rfl hro
  all_goals exact absurd rfl hro
def qbu{P:Program}{o:Oper}{a:Act}{w:World}{next:Act->World->Prop}(h:o.wp P a w next λ_ _ _=>False):∃a' w',next a' w':=by
 unfold Oper.wp at h;generalize (execOp a.eval o).run P w=r at h;cases r with
 | ok nx w'=>
   cases nx<;>simp only[Oper.upon]at h<;>first|exact⟨_,_,h⟩|exact h.elim|skip
   case enter f args=>
    obtain⟨e,w'',fr,hR,_⟩:=h [];cases e with
    |returned v=>exact⟨_,_,hR⟩
    |panicked c=>exact hR.elim
    |outgrown=>obtain⟨_,_,hf⟩:=hR;exact hf.elim
   case row row args=>
    obtain⟨v,w'',hR,_⟩:=h default [];exact⟨_,_,hR⟩
 |halt x w'=>cases x<;>simp only[Oper.upon]at h
section
variable {P:Program}{im:List Nat}{E:AD}{S:Nat->Spc}{ops:Array Oper}
def ig{N:Nat}{o:Oper}{x:CI}(h:eQ P im N ops o=some x):∃g c,x= .op o.dst g c/\cN P im o=some c/\GB ops o=some g/\∀t,o.dst=some t->t<N:=by
 unfold eQ at h;simp only[qzW,qzU]at h;obtain⟨c,hc,g,hg,h⟩:=h;split at h
 ·rename_i hd;cases h;exact⟨g,c,rfl,hc,hg,qgF hd⟩
 ·cases h
theorem PV{o:Oper}{x:CI}{σ:Sg}{Hr H:ab}{a:Act}{w:World}{K:D->ab->Prop}{z:List PanicEntry->Prop}(hS:dG E.dq P z S x)(hx:eQ P im E.N ops o=some x)(hst:St E σ H a w)(hle:Tx Hr H)(hv:OL S x σ Hr H K)
 {next:Act->World->Prop} {Q:Exit->Act->World->Prop} (hpan:∀c w',ZE E z c w'->Q (.panic c) a w') (hnext:∀r H' v w',K r H'->St E (fq σ o.dst r) H' (a.put o.dst v) w'->next (a.put o.dst v) w'):
 if Region.wanted o (yielded ops a.tmps)then o.wp P a w next Q else next (a.put o.dst undef) w:=by
 obtain⟨g,c,rfl,hc,hg,hdst⟩:=ig hx;have hst0:=hst;obtain⟨hd,hN,tp,hw,hr⟩:=hst;have hgv:mV g σ (λσ'=>σ'=σ->ax S c o.dst σ Hr H K) (λσ'=>σ'=σ->K .undef H):=by
  cases g with
  |none=>exactλ_=>hv
  | some sb=>
    obtain⟨s,b⟩:=sb;simp only[OL]at hv;simp only[mV];split at hv
    ·rename_i e1
     try rw[e1]
     exact⟨λe _=>hv.1 e,λe _=>hv.2 e⟩
    ·rename_i e1
     try rw[e1]
     exactλ_=>hv
    ·exact hv.elim
 rcases BM hg hr hgv with⟨hwant,hyes⟩|⟨hwant,hno⟩
 ·rw[if_pos hwant];exact Ja hS hc hw hd hN hr hdst (qe2 hle (hyes rfl)) hpan hnext
 ·rw[if_neg (by simp[hwant])];exact hnext _ _ _ _ (hno rfl) (hst0.skip o.dst hdst)
def YP{o:Oper}{x:CI}{σ:Sg}{Hr H:ab}{a:Act}{w:World}{K:D->ab->Prop}(hS0:dG E.dq P VM S x)(hx:eQ P im E.N ops o=some x)(hst:St E σ H a w)(hle:Tx Hr H)(hv:OL S x σ Hr H K):
 ∃r H' a' w',K r H'/\St E (fq σ o.dst r) H' a' w':=by
 have h:=PV (Q:=λ_ _ _=>False) (next:=λa' w'=>∃r H',K r H'/\St E (fq σ o.dst r) H' a' w') hS0 hx hst hle hv (λc w' h=>h.1) (λr H' v w' hk hs=>⟨r,H',hk,hs⟩);split at h
 ·obtain⟨a',w',r,H',hk,hs⟩:=qbu h;exact⟨r,H',a',w',hk,hs⟩
 ·obtain⟨r,H',hk,hs⟩:=h;exact⟨r,H',_,_,hk,hs⟩
def mX(x y:CI):Bool:=
 (match x.dst with|some d=>!y.reads.contains d|none=>true) && (match y.dst with|some e=>!x.reads.contains e|none=>true) &&
 (match x.dst,y.dst with|some d,some e=>d !=e|_,_=>true) && (match x.wid,y.wid with|some p,some q=>SA p !=SA q|_,_=>true)
def NU{x y:CI}(h:mX x y=true):(∀d,x.dst=some d->d∉y.reads)/\(∀e,y.dst=some e->e∉x.reads)/\(∀d e,x.dst=some d->y.dst=some e->d≠e)/\(∀p q,x.wid=some p->y.wid=some q->SA p≠SA q):=by
 unfold mX at h;simp only[qzZ]at h;obtain⟨⟨⟨h1,h2⟩,h3⟩,h4⟩:=h;refine⟨λd hd=>?_,λe he=>?_,λd e hd he=>?_,λp q hp hq=>?_⟩
 ·rw[hd]at h1;simpa using h1
 ·rw[he]at h2;simpa using h2
 ·rw[hd,he]at h3;simpa using h3
 ·rw[hp,hq]at h4;simpa using h4
def RU{H:ab}{p q:Option Nat}(h:∀d e,p=some d->q=some e->SA d≠SA e)(u:List (Nat×Res)):uB (jV H p u) q=uB H q:=by
 funext i;simp only[uB];by_cases hq:Dt q i
 ·rw[if_pos hq,if_pos hq];cases q with
  |none=>exact hq.elim
  | some q=>
    cases p with
    |none=>simp only[jV,Dt];exact if_neg id
    | some p=>
      have hn:¬Dt (some p) i:=λhp=>h p q rfl rfl (Eq.trans (Eq.symm hp) hq)
      simp only[jV];rw[if_neg hn]
 ·rw[if_neg hq,if_neg hq]
def qbI{σ:Sg}{t s:Nat}(h:t≠s)(d e:D):fq (fq σ (some t) d) (some s) e=fq (fq σ (some s) e) (some t) d:=by
 funext k;simp only[fq,upd];by_cases h1:k=s
 ·by_cases h2:k=t
  ·exact absurd (h2.symm.trans h1) h
  ·simp[h1,h2];intro h3;exact absurd h3.symm h
 ·simp[h1]
def X7{σ:Sg}{t s:Option Nat}(h:∀d e,t=some d->s=some e->d≠e)(d e:D):fq (fq σ t d) s e=fq (fq σ s e) t d:=by
 cases t with
 |none=>rfl
 | some t=>
   cases s with
   |none=>rfl
   |some s=>exact qbI (h t s rfl rfl) d e
def Zx{H:ab}{t s:Option Nat}(h:∀d e,t=some d->s=some e->SA d≠SA e)(u v:List (Nat×Res)):jV (jV H t u) s v=jV (jV H s v) t u:=by
 funext i;have hn:¬(Dt t i/\Dt s i):=λ⟨h1,h2⟩=>by
  cases t with
  |none=>exact h1
  | some t=>cases s with
    |none=>exact h2
    |some s=>exact h t s rfl rfl (Eq.trans (Eq.symm h1) h2)
 by_cases h1:Dt t i
 ·have h2:¬Dt s i:=λh2=>hn ⟨h1,h2⟩
  simp only[jV,h1,h2,if_true,if_false]
 ·simp only[jV,h1,if_false]
def qd6{σ:Sg}{t:Nat}{d:D}{l:List Nat}(h:t∉l):∀s∈l,fq σ (some t) d s=σ s:=by
 intro s hs;simp only[fq,upd];rw[if_neg (λe=>h (by rw[<-e];exact hs))]
def HQ{σ:Sg}{t:Option Nat}{d:D}{l:List Nat}(h:∀s,t=some s->s∉l):∀s∈l,fq σ t d s=σ s:=by
 cases t with
 |none=>exactλ_ _=>rfl
 |some t=>exact qd6 (h t rfl)
theorem Uf{x:CI×ab}{K:Sg->ab->Prop} :∀(l1 l2:List (CI×ab)) (σ:Sg) (H:ab),(∀y∈l1,mX y.1 x.1=true)->qhR S (l1++x::l2) σ H K->∀(r0:ab),uB H x.1.wid=r0->
 ∀(pre:Prop) (out:D->List (Nat×Res)->Prop),(∀H,uB H x.1.wid=r0->∀K,OL S x.1 σ x.2 H K↔ (pre/\∀d u,out d u->K d (jV H x.1.wid u)))->∀d u,out d u->qhR S (l1++l2) (fq σ x.1.dst d) (jV H x.1.wid u) K
 | [],l2,σ,H,_,hv,r0,hr0,pre,out,hform,d,u,hout=>((hform H hr0 _).1 hv).2 d u hout
 | y::l1,l2,σ,H,hap,hv,r0,hr0,pre,out,hform,d,u,hout=>by
   obtain⟨h1,h2,h3,h4⟩:=NU (hap y (by simp));obtain⟨qy,oy,hyf⟩:=MZ S y.1 σ y.2 (uB H y.1.wid);have hyf:∀H',uB H' y.1.wid=uB H y.1.wid->∀K,OL S y.1 σ y.2 H' K↔ (qy/\∀d u,oy d u->K d (jV H' y.1.wid u)):=hyf;have hv':=(hyf H rfl _).1 hv;have hcong:∀H K,OL S y.1 (fq σ x.1.dst d) y.2 H K↔OL S y.1 σ y.2 H K:=λH K=>by
    exact H4 (HQ h2)
   have e1:uB (jV H x.1.wid u) y.1.wid=uB H y.1.wid:=RU (λd e hd he q=>h4 e d he hd q.symm) u;refine(hcong _ _).2 ((hyf _ e1 _).2 ⟨hv'.1,λe v hev=>?_⟩);have hk:=hv'.2 e v hev;have hform':∀H,uB H x.1.wid=r0->∀K,OL S x.1 (fq σ y.1.dst e) x.2 H K↔ (pre/\∀d u,out d u->K d (jV H x.1.wid u)):=λH hr K=>by
    rw[<-hform H hr K];exact H4 (HQ h1)
   have e2:uB (jV H y.1.wid v) x.1.wid=r0:=by rw[<-hr0];exact RU h4 v
   have:=Uf l1 l2 (fq σ y.1.dst e) (jV H y.1.wid v) (λz hz=>hap z (by simp[hz])) hk r0 e2 pre out hform' d u hout;rwa [X7 h3 e d,Zx h4 v u]at this
theorem Pp{x:CI×ab}{K:Sg->ab->Prop} :∀(l1 l2:List (CI×ab)) (σ:Sg) (H:ab) (a:Act) (w:World),(∀y∈l1,dG E.dq P VM S y.1)->(∀y∈l1,mX y.1 x.1=true)->
 (∀y∈l1,∃o,eQ P im E.N ops o=some y.1)->(l1.Pairwise λy z=>∀t,Dt y.1.wid t->z.2 t=none)->(∀y∈l1,∀t,Dt y.1.wid t->x.2 t=none)->St E σ H a w->(∀y∈l1,Tx y.2 H)->Tx x.2 H->qhR S (l1++x::l2) σ H K->∀(r0:ab),uB H x.1.wid=r0->
 ∀(pre:Prop) (out:D->List (Nat×Res)->Prop),(∀H,uB H x.1.wid=r0->∀K,OL S x.1 σ x.2 H K↔ (pre/\∀d u,out d u->K d (jV H x.1.wid u)))->pre
 | [],l2,σ,H,a,w,_,_,_,_,_,_,_,_,hv,r0,hr0,pre,out,hform=>((hform H hr0 _).1 hv).1
 | y::l1,l2,σ,H,a,w,hqu,hap,hcomp,hban,hbx,hst,hle,hlx,hv,r0,hr0,pre,out,hform=>by
   obtain⟨h1,h2,h3,h4⟩:=NU (hap y (by simp));obtain⟨o,ho⟩:=hcomp y (by simp);have hdst:y.1.dst=o.dst:=by
    obtain⟨g,c,hxe,_⟩:=ig ho;rw[hxe];rfl
   obtain⟨hb1,hb2⟩:=qBq.1 hban;have keep:∀(Hr:ab),Tx Hr H->(∀t,Dt y.1.wid t->Hr t=none)->∀u,Tx Hr (jV H y.1.wid u):=λHr hh hb u i r hi=>by
    by_cases hw:Dt y.1.wid i
    ·rw[hb i hw]at hi;cases hi
    ·simp only[jV];rw[if_neg hw];exact hh i r hi
   obtain⟨qy,oy,hyf⟩:=MZ S y.1 σ y.2 (uB H y.1.wid);have hyf:∀H',uB H' y.1.wid=uB H y.1.wid->∀K,OL S y.1 σ y.2 H' K↔ (qy/\∀d u,oy d u->K d (jV H' y.1.wid u)):=hyf;have hv':=(hyf H rfl _).1 hv;have hv2:OL S y.1 σ y.2 H λd H'=>qhR S (l1++x::l2) (fq σ y.1.dst d) H' K/\((∀z∈l1,Tx z.2 H')/\Tx x.2 H')/\uB H' x.1.wid=r0:=(hyf H rfl _).2 ⟨hv'.1,λd u hout=>⟨hv'.2 d u hout,⟨λz hz=>keep z.2 (hle z (by simp[hz])) (hb1 z hz) u,keep x.2 hlx (hbx y (by simp)) u⟩,by rw[<-hr0];exact RU h4 u⟩⟩
   obtain⟨r,H',a',w',⟨hk,hle',hr'⟩,hst'⟩:=YP (hqu y (by simp)) ho hst (hle y (by simp)) hv2;rw[<-hdst]at hst';have hform':∀H,uB H x.1.wid=r0->∀K,OL S x.1 (fq σ y.1.dst r) x.2 H K↔ (pre/\∀d u,out d u->K d (jV H x.1.wid u)):=λH hr K=>by
    rw[<-hform H hr K];exact H4 (HQ h1)
   exact Pp l1 l2 _ H' a' w' (λz hz=>hqu z (by simp[hz])) (λz hz=>hap z (by simp[hz])) (λz hz=>hcomp z (by simp[hz])) hb2 (λz hz=>hbx z (by simp[hz])) hst' hle'.1 hle'.2 hk r0 hr' pre out hform'
end
def IN(o:Oper):List Nat:=(o.after.toList.filter λe=>Region.binds .any e).map (·.on)
def Tk:List Oper->List (List Nat)->List (List Nat)
 | [],acc=>acc
 |o::r,acc=>Tk r (acc++ [((IN o) ++ (IN o).flatMap λj=>(acc[j]?).getD []).eraseDups])
def qbh(ops:Array Oper):List (List Nat):=Tk ops.toList []
def Y3(an:List (List Nat))(j i:Nat):Bool:=((an[j]?).getD []).contains i
def YT(ops:Array Oper)(cis:List CI)(m:Nat):Bool:=
 (List.range ops.size).all (λi=>((ops[i]?).map λo=>(IN o).all (· < i)).getD true) &&
 (List.range ops.size).all (λj=>decide (j<m)||(List.range j).all λi=>Y3 (qbh ops) j i) &&
 (List.range m).all (λj=>(List.range j).all λi=>Y3 (qbh ops) j i||(match cis[i]?,cis[j]? with|some x,some y=>mX x y|_,_=>false)) &&
 decide (m<=ops.size)
def yt(listed:Array Bool)(i:Nat):Prop:=listed.getD i false=true
def DC(ops:Array Oper)(listed:Array Bool):Prop:=∀i o,ops[i]? =some o->yt listed i->∀j∈IN o,yt listed j
def O7{α:Type}[BEq α][LawfulBEq α]{l:List α}{x:α}(h:x∈l.eraseDups):x∈l:=by
 simpa using h
theorem qhp{ops:Array Oper}{listed:Array Bool}(hdc:DC ops listed):∀(r:List Oper) (acc:List (List Nat)),(∀(k:Nat),r[k]? =ops[acc.length+k]?)->
 (∀(k:Nat) (l:List Nat),acc[k]? =some l->(∀o,ops[k]? =some o->∀j∈IN o,yt listed j)->∀j∈l,yt listed j)->
 ∀(k:Nat) (l:List Nat),(Tk r acc)[k]? =some l->(∀o,ops[k]? =some o->∀j∈IN o,yt listed j)->∀j∈l,yt listed j
 | [],acc,_,hacc=>hacc
 | o::r,acc,hr,hacc=>by
   simp only[Tk];refine qhp hdc r _ (λk=>?_) (λk l hl hd j hj=>?_)
   ·have:=hr (k+1);simp only[qBi]at this;rw[this];congr 1;simp;omega
   ·have ho:ops[acc.length]? =some o:=by
     have:=hr 0;simpa using this.symm
    by_cases hk:k<acc.length
    ·rw[qAe hk]at hl;exact hacc k l hl hd j hj
    ·rw[qz9 (by omega)]at hl;have hk0:k -acc.length=0:=by
      have:=(qzV.1 hl).1;simp at this;omega
     have hke:k=acc.length:=by omega
     subst hke;rw[hk0]at hl;simp at hl;subst hl;have hd':=hd o ho;rcases qz5.1 (O7 hj)with hj|hj
     ·exact hd' j hj
     ·obtain⟨q,hq,hjq⟩:=qBB.1 hj;cases hacq:acc[q]? with
      |none=>rw[hacq]at hjq;simp at hjq
      | some lq=>
        rw[hacq]at hjq;simp at hjq;exact hacc q lq hacq (λoq hoq=>hdc q oq hoq (hd' q hq)) j hjq
def Gy{ops:Array Oper}{listed:Array Bool}(hdc:DC ops listed){j i:Nat}(h:Y3 (qbh ops) j i=true)(hj:∀o,ops[j]? =some o->∀k∈IN o,yt listed k):yt listed i:=by
 unfold Y3 at h;cases hl:(qbh ops)[j]? with
 |none=>rw[hl]at h;simp at h
 | some l=>
   rw[hl]at h;exact qhp hdc ops.toList [] (λk=>by simp) (λk l h=>by simp at h) j l hl hj i (by simpa using h)
theorem tS{ops:Array Oper}{listed:Array Bool}{i:Nat} :i∈Region.ready .any ops listed↔i<ops.size/\listed.getD i true=false/\∀o,ops[i]? =some o->∀j∈IN o,yt listed j:=by
 unfold Region.ready;rw[qAV,qBd];constructor
 ·rintro⟨h1,h2⟩;simp only[qzZ,qCa]at h2;refine⟨h1,h2.1,λo ho j hj=>?_⟩;rw[ho]at h2;simp only[qBh,qAE,qCy]at h2;unfold IN at hj;obtain⟨e,he,rfl⟩:=qz1.1 hj;rw[qAV]at he;obtain⟨k,hk,hke⟩:=List.mem_iff_getElem.1 he.1;have:=h2.2 k (by simpa using hk);have hke':o.after[k]'(by simpa using hk)=e:=by simpa using hke
  rw[hke',he.2]at this;simpa [yt]using this
 ·rintro⟨h1,h2,h3⟩;have ho:ops[i]? =some ops[i]:=by simp[h1]
  refine⟨h1,?_⟩;simp only[h2,Bool.not_false,qBF,ho,qBh,qAE,qCy];intro k hk;by_cases hb:Region.binds .any (ops[i].after[k])=true
  ·have:=h3 _ ho (ops[i].after[k]).on (by
    unfold IN;exact qz1.2 ⟨_,qAV.2 ⟨by simp,hb⟩,rfl⟩)
   simp only[yt]at this;simp[this]
  ·simp[hb]
def Nq{listed:Array Bool}{i k:Nat}(hi:i<listed.size):yt (listed.setIfInBounds i true) k↔k=i\/yt listed k:=by
 simp only[yt,qAv,qBj];by_cases h:i=k
 ·subst h;simp[hi]
 ·rw[if_neg h];constructor
  ·exact .inr
  ·rintro(rfl|h2)
   ·exact absurd rfl h
   ·exact h2
def qgR{ops:Array Oper}{listed:Array Bool}(hdc:DC ops listed)(hs:listed.size=ops.size){i:Nat}(hi:i∈Region.ready .any ops listed):DC ops (listed.setIfInBounds i true):=by
 obtain⟨h1,h2,h3⟩:=tS.1 hi;intro k o ho hk j hj;rw[Nq (by omega)]at hk ⊢;rcases hk with rfl|hk
 ·exact .inr (h3 o ho j hj)
 ·exact .inr (hdc k o ho hk j hj)
def oL{ops:Array Oper}{listed:Array Bool}(hs:listed.size=ops.size){i:Nat}(hi:i<ops.size):listed.getD i true=false↔ ¬yt listed i:=by
 simp only[yt,qAv];have:listed[i]? =some listed[i]:=by simp[hs,hi]
 rw[this];simp
section
variable {P:Program}{im:List Nat}{E:AD}{S:Nat->Spc}{ops:Array Oper}
theorem vd{cis:List CI}{N:Nat}(h:ld P im N ops=some cis):cis.length=ops.size/\∀(i:Nat) (o:Oper),ops[i]? =some o->∃x,cis[i]? =some x/\eQ P im N ops o=some x:=by
 unfold ld at h;have key:∀(l:List Oper) (cs:List CI),l.mapM (eQ P im N ops)=some cs->cs.length=l.length/\∀(i:Nat) (o:Oper),l[i]? =some o->∃x,cs[i]? =some x/\eQ P im N ops o=some x:=by
  intro l
  induction l with
  |nil=>intro cs h;simp at h;subst h;exact⟨rfl,λi o h=>by simp at h⟩
  | cons o l ih=>
    intro cs h;rw[qAC]at h;simp only[qzW,qzU]at h;obtain⟨x,hx,y,hy,h⟩:=h;cases h;obtain⟨h1,h2⟩:=ih y hy;refine⟨by simp[h1],λi q hq=>?_⟩;cases i with
    |zero=>simp at hq;subst hq;exact⟨x,rfl,hx⟩
    |succ i=>simp at hq;simpa using h2 i q hq
 obtain⟨h1,h2⟩:=key _ _ h;exact⟨by simpa using h1,λi o ho=>h2 i o (by simpa using ho)⟩
theorem LG{Q:Exit->Act->World->Prop}{K:Sg->ab->Prop}{z:List PanicEntry->Prop}(hpan:∀c a w',a.defers=E.ds->ZE E z c w'->Q (.panic c) a w')(hQ:∀σ H a w,St E σ H a w->K σ H->Q .normal a w)
 (hC0:∀i o,ops[i]? =some o->∀j∈IN o,j<i) {m:Nat} (hC2:∀j,m<=j->j<ops.size->∀i,i<j->Y3 (qbh ops) j i=true):
 ∀ (tl:List CI),(∀x∈tl,dG E.dq P z S x)->∀(k:Nat) (listed:Array Bool),m<=k->k<=ops.size->listed.size=ops.size->(∀i,i<ops.size->(yt listed i↔i<k))->DC ops listed->
  ((ops.toList.drop k).mapM (eQ P im E.N ops)=some (tl.filter CI.real))->∀(σ:Sg) (H:ab) (a:Act) (w:World),St E σ H a w->DU S tl σ H K->
  wpAny P .any ops Q (ops.size -k) listed a w
 | [],hS,k,listed,hmk,hk,hs,hd,hdc,hm,σ,H,a,w,hst,hv=>by
   have hkn:k=ops.size:=by
    cases hdr:ops.toList.drop k with
    | nil=>
      have:=congrArg List.length hdr;simp at this;omega
    | cons o r=>
      rw[hdr,qAC]at hm;simp only[qzW,qzU,List.filter_nil]at hm;obtain⟨x,_,y,_,h⟩:=hm;cases h
   subst hkn;rw[qBA];refine⟨?_,hQ σ H a w hst hv⟩;rw[List.eq_nil_iff_forall_not_mem];intro i hi;obtain⟨h1,h2,_⟩:=tS.1 hi;rw[oL hs h1]at h2;exact h2 ((hd i h1).2 h1)
 | .frz t n::tl,hS,k,listed,hmk,hk,hs,hd,hdc,hm,σ,H,a,w,hst,hv=>by
   simp only[DU]at hv;obtain⟨σ',H',hst',hv'⟩:=Qj hst hv;exact LG hpan hQ hC0 hC2 tl (λx hx=>hS x (by simp[hx])) k listed hmk hk hs hd hdc (by simpa [qBc,CI.real]using hm) σ' H' a w hst' hv'
 | .op dst g c::tl,hS,k,listed,hmk,hk,hs,hd,hdc,hm,σ,H,a,w,hst,hv=>by
   have hkn:k<ops.size:=by
    cases hdr:ops.toList.drop k with
    |nil=>rw[hdr]at hm;simp[qBc,CI.real]at hm
    | cons o r=>
      have:=congrArg List.length hdr;simp at this;omega
   have hdrop:ops.toList.drop k=ops[k]::ops.toList.drop (k+1):=by
    rw[qAQ (by simpa using hkn)];simp
   rw[hdrop,qAC]at hm;simp only[qzW,qzU,qBc,CI.real,if_true]at hm;obtain⟨x,hx,y,hy,h⟩:=hm;cases h;obtain⟨g',c',hxe,hc,hg,hdst⟩:=ig hx;cases hxe;have hfu:ops.size -k=(ops.size - (k+1)) +1:=by omega
   rw[hfu];have hok:ops[k]? =some ops[k]:=by simp[hkn]
   have hkready:k∈Region.ready .any ops listed:=tS.2 ⟨hkn,(oL hs hkn).2 (λh=>by have:=(hd k hkn).1 h;omega),λo ho j hj=>by
    have hjk:=hC0 k o ho j hj;exact(hd j (by omega)).2 hjk⟩
   refine⟨λh=>(by rw[h]at hkready;cases hkready),λi hi=>?_⟩;obtain⟨h1,h2,h3⟩:=tS.1 hi;rw[oL hs h1]at h2;have hik:i=k:=by
    rcases qCz i k with h|h|h
    ·exact absurd ((hd i h1).2 h) h2
    ·exact h
    ·exfalso;have:=Gy hdc (hC2 i (by omega) h1 k h) h3;have:=(hd k hkn).1 this;omega
   subst hik;unfold wpOp;rw[hok];simp only[];have hst0:=hst;obtain⟨hdf,hN,tp,hw,hr⟩:=hst;simp only[DU]at hv;have hnext:∀(σ':Sg) (H':ab) (a':Act) (w':World),St E σ' H' a' w'->DU S tl σ' H' K->wpAny P .any ops Q (ops.size - (i+1)) (listed.setIfInBounds i true) a' w':=λσ' H' a' w' hst' hv'=>
    LG hpan hQ hC0 hC2 tl (λx hx=>hS x (by simp[hx])) (i+1) _ (by omega) (by omega) (by simpa using hs) (λj hj=>by rw[Nq (by omega),hd j hj];omega) (qgR hdc hs hi) hy σ' H' a' w' hst' hv'
   rcases BM hg hr hv with⟨hwant,hyes⟩|⟨hwant,hno⟩
   ·rw[if_pos hwant];exact .inl (Ja (hS (.op _ g c) (qCs ..)) hc hw hdf hN hr hdst hyes (λc w'=>hpan c a w' hdf) (λr H' x w' hk hst'=>hnext _ _ _ _ hst' hk))
   ·rw[if_neg (by simp[hwant])];exact hnext _ _ _ _ (hst0.skip _ hdst) hno
theorem qi1{Q:Exit->Act->World->Prop}{K:Sg->ab->Prop}{z:List PanicEntry->Prop}(hpan:∀c a w',a.defers=E.ds->ZE E z c w'->Q (.panic c) a w')(hQ:∀σ H a w,St E σ H a w->K σ H->Q .normal a w){cis:List CI}(hcis:ld P im E.N ops=some cis)
 (hC0:∀i o,ops[i]? =some o->∀j∈IN o,j<i) {m:Nat} (hS:∀j x,j<m->cis[j]? =some x->dG E.dq P z S x) (hquiet:∀j i x y,j<i->i<m->cis[j]? =some x->cis[i]? =some y->mX x y=true->dG E.dq P VM S x) (hm:m<=ops.size) (hC2:∀j,m<=j->j<ops.size->∀i,i<j->Y3 (qbh ops) j i=true)
 (hC1:∀j,j<m->∀i,i<j->Y3 (qbh ops) j i=true\/ ∃x y,cis[i]? =some x/\cis[j]? =some y/\mX x y=true) {tl:List CI} (htl:(ops.toList.drop m).mapM (eQ P im E.N ops)=some (tl.filter CI.real)) (hStl:∀x∈tl,dG E.dq P z S x) {Hr:Nat->ab}
 (hban:∀i j x t,i<m->j<m->i≠j->cis[i]? =some x->Dt x.wid t->Hr j t=none\/Y3 (qbh ops) i j=true) (hbanc:∀i j x t,i<m->j<m->i<j->cis[i]? =some x->Dt x.wid t->Hr j t=none):
 ∀ (n:Nat) (us:List Nat) (listed:Array Bool),us.length=n->us.Pairwise (· < ·)->(∀i∈us,i<m)->listed.size=ops.size->(∀i,i<ops.size->(yt listed i↔i<m/\i∉us))->DC ops listed->
  ∀(σ:Sg) (H:ab) (a:Act) (w:World),St E σ H a w->(∀i∈us,Tx (Hr i) H)->qhR S (us.map λi=>((cis[i]?).getD (.frz 0 0),Hr i)) σ H (λσ H=>DU S tl σ H K)->
  wpAny P .any ops Q (us.length+ (ops.size -m)) listed a w:=by
 obtain⟨hclen,hcget⟩:=vd hcis;intro n
 induction n with
 | zero=>
   intro us listed hn hpw hus hs hd hdc σ H a w hst hle hv;have:us=[]:=qAd hn;subst this;simp only[qBP,qAG];exact LG hpan hQ hC0 hC2 tl hStl m listed (qz2 _) hm hs (λi hi=>by rw[hd i hi];simp) hdc htl σ H a w hst hv
 | succ n ih=>
   intro us listed hn hpw hus hs hd hdc σ H a w hst hle hv;have hfu:us.length+ (ops.size -m)=(n+ (ops.size -m)) +1:=by omega
   rw[hfu];have hne:Region.ready .any ops listed≠ []:=by
    cases us with
    |nil=>simp at hn
    | cons u us=>
      have hum:=hus u (by simp);have:u∈Region.ready .any ops listed:=tS.2 ⟨by omega,(oL hs (by omega)).2 (λh=>((hd u (by omega)).1 h).2 (by simp)),λo ho j hj=>by
       have hju:=hC0 u o ho j hj;refine(hd j (by omega)).2 ⟨by omega,λhmem=>?_⟩;rcases qAc.1 hmem with rfl|hmem
       ·omega
       ·have:=qBQ hpw hmem;omega⟩
      intro h;rw[h]at this;cases this
   refine⟨λh=>absurd h hne,λi hi=>?_⟩;obtain⟨h1,h2,h3⟩:=tS.1 hi;rw[oL hs h1]at h2;have hiu:i∈us:=by
    by_cases him:i<m
    ·by_cases hmem:i∈us
     ·exact hmem
     ·exact absurd ((hd i h1).2 ⟨him,hmem⟩) h2
    ·exfalso;cases us with
     |nil=>simp at hn
     | cons u us=>
       have hum:=hus u (by simp);have:=Gy hdc (hC2 i (by omega) h1 u (by omega)) h3;exact((hd u (by omega)).1 this).2 (by simp)
   obtain⟨us1,us2,rfl⟩:=qCt hiu;have him:i<m:=hus i hiu;have hoi:ops[i]? =some ops[i]:=by simp[h1]
   obtain⟨x,hxi,hx⟩:=hcget i _ hoi;have hlt1:∀j∈us1,j<i:=λj hj=>by
    have:=qAR.1 hpw;exact this.2.2 j hj i (by simp)
   have hap:∀y∈us1.map (λi=>((cis[i]?).getD (.frz 0 0),Hr i)),mX y.1 x=true:=by
    intro y hy;obtain⟨j,hj,rfl⟩:=qz1.1 hy;have hji:=hlt1 j hj;rcases hC1 i him j hji with h|⟨x',y',e1,e2,e3⟩
    ·exfalso;have:=Gy hdc h h3;exact((hd j (by omega)).1 this).2 (by simp[hj])
    ·rw[hxi]at e2;cases e2;simp only[e1,qAE];exact e3
   rw[qBt,qAo,hxi]at hv;simp only[qAE]at hv;obtain⟨pre,out,hform⟩:=MZ S x σ (Hr i) (uB H x.wid);have hform:∀H',uB H' x.wid=uB H x.wid->∀K,OL S x σ (Hr i) H' K↔ (pre/\∀d u,out d u->K d (jV H' x.wid u)):=hform;have hgx:∀(j:Nat),j<i->∃y o,cis[j]? =some y/\eQ P im E.N ops o=some y:=λj hj=>by
    obtain⟨y',hy1,hy2⟩:=hcget j ops[j] (by simp);exact⟨y',_,hy1,hy2⟩
   have hpre:=Pp (x:=(x,Hr i)) (im:=im) (ops:=ops) _ _ σ H a w (λy hy=>by
    obtain⟨j,hj,rfl⟩:=qz1.1 hy;obtain⟨y',o',hy1,hy2⟩:=hgx j (hlt1 j hj);simp only[hy1,qAE];have hap1:=hap ((cis[j]?).getD (.frz 0 0),Hr j) (qz1.2 ⟨j,hj,rfl⟩);simp only[hy1,qAE]at hap1;exact hquiet j i y' x (hlt1 j hj) him hy1 hxi hap1) hap (λy hy=>by
    obtain⟨j,hj,rfl⟩:=qz1.1 hy;obtain⟨y',o',hy1,hy2⟩:=hgx j (hlt1 j hj);simp only[hy1,qAE];exact⟨_,hy2⟩) (by
    rw[qCd];refine(qAR.1 hpw).1.imp_of_mem ?_;intro j k hj hk hjk t ht;obtain⟨y',o',hy1,hy2⟩:=hgx j (hlt1 j hj);simp only[hy1,qAE]at ht;have:=hlt1 k hk;exact hbanc j k y' t (by omega) (by omega) hjk hy1 ht) (λy hy t ht=>by
    obtain⟨j,hj,rfl⟩:=qz1.1 hy;have hji:=hlt1 j hj;obtain⟨y',o',hy1,hy2⟩:=hgx j hji;simp only[hy1,qAE]at ht;exact hbanc j i y' t (by omega) (by omega) hji hy1 ht) hst (λy hy=>by
    obtain⟨j,hj,rfl⟩:=qz1.1 hy;exact hle j (by simp[hj])) (hle i (by simp)) hv _ rfl pre out hform
   have htake:=Uf (x:=(x,Hr i)) _ _ σ H hap hv _ rfl pre out hform;obtain⟨g,c,hxe,_,_,_⟩:=ig hx;have hdx:x.dst=(ops[i]).dst:=by rw[hxe];rfl
   have hvx:OL S x σ (Hr i) H λd H'=>qhR S ((us1++us2).map λi=>((cis[i]?).getD (.frz 0 0),Hr i)) (fq σ x.dst d) H' (λσ H=>DU S tl σ H K)/\∀j∈us1++us2,Tx (Hr j) H':=(hform H rfl _).2 ⟨hpre,λd u hout=>⟨by rw[qBt];exact htake d u hout,λj hj k r hk=>by
    have hju:j∈us1++i::us2:=by
     rcases qz5.1 hj with h|h<;>simp[h]
    have hle':=hle j hju;have hji:i≠j:=λe=>by
     subst e;have:=qAR.1 hpw;rcases qz5.1 hj with h|h
     ·have:=hlt1 i h;omega
     ·have h4:=qBQ this.2.1 h;omega
    have hjm:=hus j hju;by_cases hw:Dt x.wid k
    ·rcases hban i j x k him hjm hji hxi hw with h|h
     ·rw[h]at hk;cases hk
     ·have h5:=Gy hdc h h3;exact absurd hju ((hd j (by omega)).1 h5).2
    ·simp only[jV];rw[if_neg hw];exact hle' k r hk⟩⟩
   unfold wpOp;rw[hoi];simp only[];have hlen:(us1++us2).length=n:=by simp at hn ⊢;omega
   have hsub:(us1++us2).Pairwise (· < ·):=hpw.sublist (by simp);have hnd:i∉us1++us2:=by
    have:=qAR.1 hpw;intro h;rcases qz5.1 h with h|h
    ·have:=hlt1 i h;omega
    ·have h4:=qBQ this.2.1 h;omega
   have hps:=PV (Q:=Q) (next:=wpAny P .any ops Q (n+ (ops.size -m)) (listed.setIfInBounds i true)) (hS i x him hxi) hx hst (hle i (by simp)) hvx (λc w'=>hpan c a w' hst.1) (λr H' v w' hk hst'=>by
    rw[<-hdx]at hst';have:=ih (us1++us2) (listed.setIfInBounds i true) hlen hsub (λj hj=>hus j (by simp at hj ⊢;rcases hj with h|h<;>simp[h])) (by simpa using hs) (λj hj=>by
     rw[Nq (by omega),hd j hj];constructor
     ·rintro(rfl|⟨ha,hb⟩)
      ·exact⟨him,hnd⟩
      ·exact⟨ha,λh=>hb (by simp at h ⊢;rcases h with h|h<;>simp[h])⟩
     ·rintro⟨ha,hb⟩;by_cases hji:j=i
      ·exact .inl hji
      ·exact .inr ⟨ha,λh=>hb (by simp at h ⊢;rcases h with h|h|h;exact .inl h;exact absurd h hji;exact .inr h)⟩) (qgR hdc hs hi) _ H' _ w' hst' hk.2 hk.1
    rw[hlen,hdx]at this;exact this)
   split
   ·rename_i hw;rw[if_pos hw]at hps;exact .inl hps
   ·rename_i hw;rw[if_neg hw]at hps;exact hps
end
end Go.Gv
