/- A part of the framework and of the walks: V57 W13 T18 W14 T19 W15 T20 W16 T21 W18 W9. -/
import Derived.Test.YtfbleenmepoodaaGreatDoorGb23
set_option linter.unusedSimpArgs false
set_option linter.unusedVariables false
set_option linter.unusedSectionVars false
set_option linter.defProp false
set_option maxRecDepth 100000
namespace Go.Gv
def vM:List B:=[⟨#[97]⟩,⟨#[98]⟩,⟨#[99]⟩,⟨#[65]⟩,⟨#[97,98]⟩,⟨#[]⟩]
def FA:List B:=[⟨#[88]⟩,⟨#[89]⟩]
def FsetL:List B:=[⟨#[124]⟩,⟨#[124,112,124]⟩,⟨#[124,112,124,113,124]⟩,⟨#[124,113,124]⟩]
def dA:List Attr:=[⟨⟨#[119,111,114,100]⟩,false⟩,⟨⟨#[116,97,103]⟩,false⟩,⟨⟨#[102,101,97,116]⟩,true⟩]
def Zc(l:List Attr):Prop:=l=dA
def AO(r:List B):Prop:=∃w t f,w∈vM/\t∈FA/\f∈FsetL/\r=[w,t,f]
def Ki(c:Corpus):Prop:=c.attrs=dA/\∀r∈c.toks,AO r
open Cod (enc dec)
variable {S S0:Nat->Spc}
def Uk{a b c:Corpus}(ha:Ki a)(hb:Ki b)(h:c.attrs=a.attrs/\c.toks=a.toks++b.toks):Ki c:=by
 refine⟨h.1.trans ha.1,λr hr=>?_⟩;rw[h.2]at hr;rcases qml.1 hr with hr|hr
 ·exact ha.2 r hr
 ·exact hb.2 r hr
abbrev s_m_Document:Spc:=aY (aT (a2 B Int)) (λx=>1<=x.2.2/\x.2.2<=1000) (enc (X:=Corpus)) (λx c=>M5 c/\Ki c/\(c.toks.length:Int)<=x.2.2)
abbrev s_m_Corpus:Spc:=aY (aT (a1 Int)) (λx=>1<=x.2/\x.2<=1000) (enc (X:=Corpus)) (λx c=>M5 c/\Ki c/\(c.toks.length:Int)<=3*x.2)
theorem Nf(h1:S cZ=s_m_Next)(h2:S kH=s_m_Document)(h3:S sU=s_r06_Concat):av lP lC S (aT (a1 Int)) (λx=>1<=x.2/\x.2<=1000) (enc (X:=Corpus)) (λx c=>M5 c/\Ki c/\(c.toks.length:Int)<=3*x.2):=by
 rintro⟨L,n⟩ hn;have hn:1<=n/\n<=1000:=hn;simp[lP,lC,h1,h2,hn];intro b y hy hyk hyl b1 k hk0 hk1;refine aP (X:=Int×Corpus) [0,1,4,5] [4] (λx=>0<=x.1/\x.1<=2/\M5 x.2/\Ki x.2/\(x.2.toks.length:Int) +x.1*n<=3*n) (λx=>[(6,enc x.1)]) (λx=>[(5, .box b1 (enc x.2).cells)]) (λx=>x.1.toNat) (k,y) ⟨hk0,by omega,hy,hyk,by
  have:k=0\/k=1\/k=2:=by omega
  show(y.toks.length:Int) +k*n<=3*n;rcases this with rfl|rfl|rfl <;> omega⟩ (by simp) (by simp) ?_
 rintro⟨k,c⟩ ⟨q1,q2,q3,q4,q5⟩;simp only at q1 q2 q3 q4 q5;simp[h1,h2,h3,hn];refine⟨λhk=>⟨by omega,by omega,?_⟩,λhk=>?_⟩
 ·have:k=1\/k=2:=by omega
  rcases this with rfl|rfl
  all_goals
   simp[hn];refineλy hy hyk hyl=>⟨⟨q3,hy⟩,λa e he=>⟨λh0=>⟨by simp[InR],_,a,⟨?_,?_,(he h0).1,Uk q4 hyk (he h0).2,by
    have e:=(he h0).2.2;simp only at e;rw[e,qmF];omega⟩,⟨rfl, .inl ⟨rfl,rfl,rfl,rfl,rfl,rfl,rfl⟩⟩,?_⟩,λh0=>⟨by simp[InR],_,c,⟨?_,?_,q3,q4,by omega⟩,⟨rfl, .inl ⟨rfl,rfl,rfl,rfl,rfl,rfl,rfl⟩⟩,?_⟩⟩⟩
   all_goals omega
 ·have:k=0:=by omega
  subst this;exact cp c (by simp) ⟨q3,q4,by show(c.toks.length:Int)<=3*n;omega⟩
end Go.Gv
namespace Go.Gv
def RFz(Hf:ab):Res->Res->Prop
 | .box b cs, .box b' cs'=>b=b'/\cs.length=cs'.length/\∀ (m:Nat) (c c':D),cs[m]? =some c->cs'[m]? =some c'->FrzTo Hf c c'
 | .row x el n es, .row x' el' n' es'=>x=x'/\el=el'/\n=n'/\es.length=es'.length/\(∀d∈es',d.kn=true/\d.cells.length=n)/\∀ (m:Nat) (c c':D),es[m]? =some c->es'[m]? =some c'->∀ (j:Nat) (e e':D),c.cells[j]? =some e->c'.cells[j]? =some e'->FrzTo Hf e e'
 | .tbox el b cs, .tbox el' b' cs'=>el=el'/\b=b'/\cs.length=cs'.length/\∀ (m:Nat) (c c':D),cs[m]? =some c->cs'[m]? =some c'->FrzTo Hf c c'
 | .mrow x es, .mrow x' es'=>x=x'/\es.length=es'.length/\∀ (m:Nat) (c c':D),es[m]? =some c->es'[m]? =some c'->FrzTo Hf c c'
 | r,r'=>r=r'
def RFz.blk{Hf:ab}{r r':Res}(h:RFz Hf r r'):r'.blk=r.blk:=by
 cases r <;> cases r' <;> simp only[RFz]at h
 ·obtain⟨rfl,_⟩:=h;rfl
 all_goals first
  | (obtain⟨rfl,rfl,rfl,_⟩:=h;rfl)
  | (obtain⟨rfl,rfl,_⟩:=h;rfl)
  | (obtain⟨rfl,_⟩:=h;rfl)
  | (cases h;done)
  | (cases h;rfl)
theorem RFz.ok{tp I I':Nat->Prop}{w:World}{Hf:ab}{r r':Res}(h:RFz Hf r r')(hr:ResOk (R tp I w) w r)(hok:∀i q,Hf i=some q->ResOk (R tp I w) w q)(hI:∀b,I b->I' b)(hb:∀i q b,Hf i=some q->q.blk=some b->I' b):ResOk (R tp I' w) w r':=by
 have fz:∀ {c c':D} {y:Value},FrzTo Hf c c'->R tp I w y c->R tp I' w y c':=λh hr=>h.R (H:=cw) hok hI hb hr
 have same:ResOk (R tp I' w) w r:=hr.conv (λx d hr=>hr.mono (λ_ h=>h) (λb hb=>⟨hI b hb,rfl⟩) (λb _=> .refl _ _)) (λ_ _=>rfl);cases r with
 | box b cs=>
   cases r' with
   | box b' cs'=>
     obtain⟨rfl,hl,hc⟩:=h;obtain⟨xs,el,h1,h2,h3⟩:=hr;refine⟨xs,el,h1,h2.trans hl,λk y c hy hc'=>?_⟩;have hk:k < cs.length:=by rw[hl];exact(qmb.1 hc').1
     have h4:=h3 k y cs[k] hy (qmd hk);exact⟨h4.1,fz (hc k _ _ (qmd hk) hc') h4.2⟩
   | row x el n es=>cases h
   | iter b s p=>cases h
   | tbox b s p=>cases h
   | mrow=>cases h
   | miter=>cases h
   | raw=>cases h
 | iter b s p=>
   cases r' with
   | box b' cs'=>cases h
   | row x el n es=>cases h
   | iter b' s' p'=>cases h;exact same
   | tbox b' s' p'=>cases h
   | mrow=>cases h
   | miter=>cases h
   | raw=>cases h
 | tbox b s p=>
   cases r' with
   | box b' cs'=>cases h
   | row x el n es=>cases h
   | iter b' s' p'=>cases h
   | mrow=>cases h
   | miter=>cases h
   | raw=>cases h
   | tbox b' s' cs'=>
     obtain⟨rfl,rfl,hl,hc⟩:=h;obtain⟨xs,h1,h2,h3⟩:=hr;refine⟨xs,h1,h2.trans hl,λk y c hy hc'=>?_⟩;have hk:k < p.length:=by rw[hl];exact(qmb.1 hc').1
     have h4:=h3 k y p[k] hy (qmd hk);exact⟨h4.1,fz (hc k _ _ (qmd hk) hc') h4.2⟩
 | row x el n es=>
   cases r' with
   | box b' cs'=>cases h
   | iter b' s' p'=>cases h
   | tbox b' s' p'=>cases h
   | mrow=>cases h
   | miter=>cases h
   | raw=>cases h
   | row x' el' n' es'=>
     obtain⟨rfl,rfl,rfl,hl,hkn,hc⟩:=h;obtain⟨xs,h1,h2,h3⟩:=hr;refine⟨xs,hl ▸h1,hkn,λk y c hy hc'=>?_⟩;have hw:∀d∈es,d.cells.length=n:=λd hd=>(h2 d hd).2
     have hw':∀d∈es',d.cells.length=n:=λd hd=>(hkn d hd).2
     have hfl:=aI hw;have hfl':=aI hw';have hk:k < (aZ es).length:=by
      have:=(qmb.1 hc').1;rw[hfl,hl,<-hfl'];exact this
     have hk2:k < es.length*n:=by rw[<-hfl];exact hk
     have hn:0 < n:=by
      rcases qn3 n with e|e
      ·subst e;simp at hk2
      ·exact e
     have h4:=h3 k y (aZ es)[k] hy (qmd hk);refine⟨h4.1,fz ?_ h4.2⟩;have hdm:k=(k/n) *n+k % n:=by have:=qnM k n;rw[qnG]at this;omega
     have hmod:k % n < n:=qnI _ hn;have g1:=eR hw (i:=k/n) (j:=k % n) hmod;have g2:=eR hw' (i:=k/n) (j:=k % n) hmod;rw[<-hdm]at g1 g2;rw[hc']at g2;rw[qmd hk]at g1;cases e1:es[k/n]? with
     | none=>rw[e1]at g1;cases g1
     | some c1=>
       cases e2:es'[k/n]? with
       | none=>rw[e2]at g2;cases g2
       | some c2=>
         rw[e1]at g1;rw[e2]at g2;exact hc _ c1 c2 e1 e2 _ _ _ g1.symm g2.symm
 | mrow x es=>
   cases r' with
   | box=>cases h
   | iter=>cases h
   | tbox=>cases h
   | row=>cases h
   | miter=>cases h
   | raw=>cases h
   | mrow x' es'=>
     obtain⟨rfl,hl,hc⟩:=h;obtain⟨b,ents,clock,rfl,h1,h2,h3⟩:=hr;refine⟨b,ents,clock,rfl,h1,h2,h3.1.trans hl,λk e c he hc'=>?_⟩;have hk:k < es.length:=by rw[hl];exact(qmb.1 hc').1
     exact fz (hc k _ _ (qmd hk) hc') (h3.2 k e _ he (qmd hk))
 | miter b c l=>
   cases r' with
   | box=>cases h
   | iter=>cases h
   | tbox=>cases h
   | row=>cases h
   | mrow=>cases h
   | raw=>cases h
   | miter=>cases h;exact same
 | raw k=>
   cases r' with
   | box=>cases h
   | iter=>cases h
   | tbox=>cases h
   | row=>cases h
   | mrow=>cases h
   | miter=>cases h
   | raw k'=>cases h;exact same
def RFe(Hf:ab)(r r':Res):Prop:=r=r'\/RFz Hf r r'
def RFe.blk{Hf:ab}{r r':Res}(h:RFe Hf r r'):r'.blk=r.blk:=by
 rcases h with rfl|h
 ·rfl
 ·exact h.blk
def RFe.ok{tp I I':Nat->Prop}{w:World}{Hf:ab}{r r':Res}(h:RFe Hf r r')(hr:ResOk (R tp I w) w r)(hok:∀i q,Hf i=some q->ResOk (R tp I w) w q)(hI:∀b,I b->I' b)(hb:∀i q b,Hf i=some q->q.blk=some b->I' b):ResOk (R tp I' w) w r':=by
 rcases h with rfl|h
 ·exact hr.conv (λx d hr=>hr.mono (λ_ h=>h) (λb hb=>⟨hI b hb,rfl⟩) (λb _=> .refl _ _)) (λ_ _=>rfl)
 ·exact h.ok hr hok hI hb
def isNilRow.blk'{r:Res}(h:isNilRow r):r.blk=none:=by
 cases r with
 | box b c=>exact h.elim
 | iter b s p=>exact h.elim
 | tbox b s p=>exact h.elim
 | mrow=>exact h.elim
 | miter=>exact h.elim
 | raw=>exact h.elim
 | row x el n es=>obtain⟨rfl,rfl⟩:=h;rfl
theorem RQ{σ σ':Sg}{H H' Hf:ab}(ρ:Nat->Nat)(h1:∀t,FrzTo Hf (σ t) (σ' t))(h2:∀i r,H' i=some r->(∃r0,H (ρ i)=some r0/\RFe Hf r0 r)\/isNilRow r)
 (h3:∀i j r s,H' i=some r->H' j=some s->ρ i=ρ j->i=j\/isNilRow r\/isNilRow s) (h4:∀i r,Hf i=some r->H i=some r/\∀j r',H' j=some r'->ρ j=i->isNilRow r'):Wk σ H σ' H':=by
 intro E a w ⟨hd,hN,tp,h,hr⟩;have hblk:∀i r c,H' i=some r->r.blk=some c->∃r0,H (ρ i)=some r0/\r0.blk=some c/\ ¬isNilRow r:=λi r c k1 k2=>by
  have hn:¬isNilRow r:=λhn=>by rw[hn.blk']at k2;cases k2
  rcases h2 i r k1 with⟨r0,k3,k4⟩|k3
  ·exact⟨r0,k3,k4.blk ▸k2,hn⟩
  ·exact absurd k3 hn
 have hown:∀c,bN H' c->bN H c:=λc ⟨i,r,k1,k2⟩=>by
  obtain⟨r0,k3,k4,_⟩:=hblk i r c k1 k2;exact⟨ρ i,r0,k3,k4⟩
 have himm:∀c,aM E.O tp H w c->aM E.O tp H' w c:=λc hb=>⟨hb.1,hb.2.1,hb.2.2.1,λho=>hb.2.2.2 (hown c ho)⟩
 have hfok:∀i q,Hf i=some q->ResOk (R tp (aM E.O tp H w) w) w q:=λi q hq=>h.sat.ok i q (h4 i q hq).1
 have hfb:∀i q b,Hf i=some q->q.blk=some b->aM E.O tp H' w b:=λi q b hq hb=>by
  obtain⟨k1,k2⟩:=h4 i q hq;have ho:=h.sat.out i q b k1 hb;refine⟨(h.sat.ok i q k1).lt hb,ho.1,ho.2,λ⟨j,s,k3,k4⟩=>?_⟩;obtain⟨s0,k5,k6,k7⟩:=hblk j s b k3 k4;exact k7 (k2 j s k3 (h.sat.dis (ρ j) i s0 q b k5 k1 k6 hb))
 have move:∀x d,R tp (aM E.O tp H w) w x d->R tp (aM E.O tp H' w) w x d:=λx d hr=>
  hr.mono (λ_ h=>h) (λb hb=>⟨himm b hb,rfl⟩) (λb _=> .refl _ _)
 refine⟨hd,hN,tp,⟨h.hO,h.tpx,h.tpn,h.tpl,h.step,λb hb=>h.loc b (hown b hb),⟨λi j r s c k1 k2 k3 k4=>?_,λi r c k1 k2=>?_,λi r k1=>?_⟩⟩,λt=>(h1 t).R (H:=cw) hfok himm hfb (hr t)⟩
 ·obtain⟨r0,a1,a2,a3⟩:=hblk i r c k1 k3;obtain⟨s0,b1,b2,b3⟩:=hblk j s c k2 k4;rcases h3 i j r s k1 k2 (h.sat.dis _ _ r0 s0 c a1 b1 a2 b2)with e|e|e
  ·exact e
  ·exact absurd e a3
  ·exact absurd e b3
 ·obtain⟨r0,a1,a2,_⟩:=hblk i r c k1 k2;exact h.sat.out _ r0 c a1 a2
 ·rcases h2 i r k1 with⟨r0,k3,k4⟩|k3
  ·exact k4.ok (h.sat.ok _ r0 k3) hfok himm hfb
  ·cases r with
   | box b c=>exact k3.elim
   | iter b s p=>exact k3.elim
   | tbox b s p=>exact k3.elim
   | mrow=>exact k3.elim
   | miter=>exact k3.elim
   | raw=>exact k3.elim
   | row x el n es=>
     obtain⟨rfl,rfl⟩:=k3;exact⟨[],qns _ _ _ _,by simp,λk y c h=>by simp at h⟩
def vO(Hf:ab):List (Nat×D)->Sg->Prop
 | [],_=>True
 | (t,d)::l,σ=>FrzTo Hf (σ t) d/\vO Hf l σ
@[simp] theorem qcO(Hf:ab)(σ:Sg):vO Hf [] σ=True:=id rfl
@[simp] theorem qcP(Hf:ab)(t:Nat)(d:D)(l:List (Nat×D))(σ:Sg):vO Hf ((t,d)::l) σ=(FrzTo Hf (σ t) d/\vO Hf l σ):=id rfl
def RK(rn:List (Nat×Nat))(i:Nat):Nat:=(rn.lookup i).getD i
def tF(Hf:ab)(rn:List (Nat×Nat)):List (Nat×Res)->ab->Prop
 | [],_=>True
 | (i,r)::l,H=>((∃r0,H (RK rn i)=some r0/\RFe Hf r0 r)\/isNilRow r)/\tF Hf rn l H
@[simp] theorem qcM(Hf:ab)(rn:List (Nat×Nat))(H:ab):tF Hf rn [] H=True:=id rfl
@[simp] theorem qcN(Hf:ab)(rn:List (Nat×Nat))(i:Nat)(r:Res)(l:List (Nat×Res))(H:ab):tF Hf rn ((i,r)::l) H=(((∃r0,H (RK rn i)=some r0/\RFe Hf r0 r)\/isNilRow r)/\tF Hf rn l H):=id rfl
def N1(gv:List Nat)(H:ab):ab:=λi=>if i∈gv then H i else none
def qbS(rn:List (Nat×Nat))(ids gv:List Nat):Prop:=(∀i∈ids,∀j∈ids,RK rn i=RK rn j->i=j)/\(∀i∈ids,RK rn i∉gv)
instance (rn:List (Nat×Nat)) (ids gv:List Nat):Decidable (qbS rn ids gv):=by unfold qbS;infer_instance
def cQ{l:List (Nat×Res)}{H:ab}{i:Nat}{r:Res}(h:eB l H i=some r):(i,r) ∈l\/(i∉l.map (·.1)/\H i=some r):=by
 induction l with
 | nil=>exact .inr ⟨by simp,h⟩
 | cons p l ih=>
   obtain⟨j,q⟩:=p;simp only[eB,ai]at h;split at h
   ·rename_i e;subst e;cases h;exact .inl (by simp)
   ·rename_i e;rcases ih h with h|⟨h1,h2⟩
    ·exact .inl (by simp[h])
    ·exact .inr ⟨by simp[e,h1],h2⟩
def NU{Hf:ab}{rn:List (Nat×Nat)}{l:List (Nat×Res)}{H:ab}{i:Nat}{r:Res}(h:tF Hf rn l H)(hm:(i,r) ∈l):(∃r0,H (RK rn i)=some r0/\RFe Hf r0 r)\/isNilRow r:=by
 induction l with
 | nil=>simp at hm
 | cons p l ih=>
   obtain⟨j,q⟩:=p;rcases qmw.1 hm with e|hm
   ·cases e;exact h.1
   ·exact ih h.2 hm
theorem A5{σ0 σ:Sg}{H0 H:ab}{ks hk gv:List Nat}{rn:List (Nat×Nat)}{sl:List (Nat×D)}{hp:List (Nat×Res)}(hi:qbS rn (hp.map (·.1) ++hk) gv)(hid:∀i∈hk,i∉hp.map (·.1)->RK rn i=i)
 (h1:vO (N1 gv H) sl σ) (h2:rL ks σ0 σ) (h3:tF (N1 gv H) rn hp H) (h4:vP hk H0 H):Wk σ H (pH sl (gV ks σ0)) (eB hp (iD hk H0)):=by
 have hmem:∀i r,eB hp (iD hk H0) i=some r->i∈hp.map (·.1) ++hk:=λi r h=>by
  rcases cQ h with h|⟨_,h⟩
  ·exact qml.2 (.inl (qmo.2 ⟨_,h,rfl⟩))
  ·rw[EV]at h;split at h
   ·rename_i e;exact qml.2 (.inr e)
   ·cases h
 refine RQ (Hf:=N1 gv H) (RK rn) (λt=>?_) (λi r h=>?_) (λi j r s k1 k2 e=> .inl (hi.1 i (hmem i r k1) j (hmem j s k2) e)) (λi r h=>?_)
 ·clear hi hid h3 hmem
  induction sl with
  | nil=>
    rw[OD,EU];split
    ·rename_i h;rw[<-h2 t h];exact .same _
    ·exact .any _
  | cons p sl ih=>
    obtain⟨s,d⟩:=p;simp only[pH,upd];split
    ·rename_i e;subst e;exact h1.1
    ·exact ih h1.2
 ·rcases cQ h with h|⟨h5,h⟩
  ·exact NU h3 h
  ·rw[EV]at h;split at h
   ·rename_i e;rw[hid i e h5,h4 i e];exact .inl ⟨r,h, .inl rfl⟩
   ·cases h
 ·simp only[N1]at h;split at h
  ·rename_i e;exact⟨h,λj r' k1 k2=>absurd e (k2 ▸hi.2 j (hmem j r' k1))⟩
  ·cases h
@[simp] theorem qkj(i:Nat):RK [] i=i:=id rfl
def FzL(Hf:ab):List D->List D->Prop
 | [], []=>True
 | a::l,b::r=>FrzTo Hf a b/\FzL Hf l r
 | _,_=>False
@[simp] theorem qkH(Hf:ab):FzL Hf [] []=True:=id rfl
@[simp] theorem qkI(Hf:ab)(a b:D)(l r:List D):FzL Hf (a::l) (b::r)=(FrzTo Hf a b/\FzL Hf l r):=id rfl
def FzL.get{Hf:ab} :∀ {l r:List D},FzL Hf l r->l.length=r.length/\∀ (m:Nat) (c c':D),l[m]? =some c->r[m]? =some c'->FrzTo Hf c c'
 | [], [],_=>⟨rfl,λm c c' h=>by simp at h⟩
 | a::l,b::r,h=>by
   obtain⟨h1,h2⟩:=h;have ih:=FzL.get h2;refine⟨by simp[ih.1],λm c c' e1 e2=>?_⟩;cases m with
   | zero=>simp at e1 e2;subst e1;subst e2;exact h1
   | succ m=>simp at e1 e2;exact ih.2 m c c' e1 e2
@[simp] theorem qfl(Hf:ab)(b:Nat)(cs cs':List D):RFe Hf (.box b cs) (.box b cs')=(cs=cs'\/FzL Hf cs cs'):=by
 refine propext ⟨λh=>?_,λh=>?_⟩
 ·rcases h with h|⟨_,hl,hc⟩
  ·cases h;exact .inl rfl
  ·right
   induction cs generalizing cs' with
   | nil=>cases cs' with
     | nil=>trivial
     | cons b r=>simp at hl
   | cons a l ih=>cases cs' with
     | nil=>simp at hl
     | cons b r=>exact⟨hc 0 a b rfl rfl,ih r (by simpa using hl) λm c c' h1 h2=>hc (m+1) c c' (by simpa using h1) (by simpa using h2)⟩
 ·rcases h with rfl|h
  ·exact .inl rfl
  ·exact .inr ⟨rfl,h.get.1,h.get.2⟩
def VH(σ0:Sg)(H0:ab)(ks hk gv:List Nat)(rn:List (Nat×Nat))(sl:List (Nat×D))(hp:List (Nat×Res))(σ:Sg)(H:ab):Prop:=vO (N1 gv H) sl σ/\rL ks σ0 σ/\tF (N1 gv H) rn hp H/\vP hk H0 H
@[simp] theorem qeq(σ0:Sg)(H0:ab)(ks hk gv:List Nat)(rn:List (Nat×Nat))(sl:List (Nat×D))(hp:List (Nat×Res))(σ:Sg)(H:ab):VH σ0 H0 ks hk gv rn sl hp σ H=(vO (N1 gv H) sl σ/\rL ks σ0 σ/\tF (N1 gv H) rn hp H/\vP hk H0 H):=id rfl
section
variable {S:Nat->Spc}{σ:Sg}{H:ab}{K:Ex->Sg->ab->Prop}
def jO{X:Type}(ks hk gv:List Nat)(rn:List (Nat×Nat))(P:X->Prop)(sl:X->List (Nat×D))(hp:X->List (Nat×Res)){k:Nat}{a b:CC}(ids:List Nat)(hids:∀x,(hp x).map (·.1)=ids)(hi:qbS rn (ids++hk) gv/\∀i∈hk,i∉ids->RK rn i=i)
 (ha:vc S a (TJ (λσ' H'=>∃x,P x/\VH σ H ks hk gv rn (sl x) (hp x) σ' H') K) σ H)
 (hb:∀x,P x->vc S b K (pH (sl x) (gV ks σ)) (eB (hp x) (iD hk H))):vc S (NB k a b) K σ H:=by
 refine Wj P _ _ (rQ a _ _ (λe σ' H' h=>?_) ha) hb;cases e with
 | norm=>
   obtain⟨x,h1,h2⟩:=h;exact⟨x,h1,A5 (by rw[hids x];exact hi.1) (by rw[hids x];exact hi.2) h2.1 h2.2.1 h2.2.2.1 h2.2.2.2⟩
 | ex i=>exact h
 | ret=>exact h
end
open Cod (enc dec)
variable {S S0:Nat->Spc}
end Go.Gv
namespace Go.Gv
variable {dq:Prop}
section
variable {X Y:Type}
def Zd(cf:Y->List D)(b:Nat)(post:Y->Prop)(r:D)(H:ab):Prop:=∃y cs,r= .tup []/\H 1=some (.box b cs)/\FzL (XG 1 [] H) cs (cf y)/\post y
def J9(cc:CC)(rs:List aj)(S:Nat->Spc)(ce:X->List D)(cf:Y->List D)(pre:X->Prop)(post:X->Y->Prop):Prop:=
 ∀L b x,pre x->vc S cc (nQ rs λr H'=>Zd cf b (post x) r H') (cE [.tape L, .bptr 1 b 0]) (ai cw 1 (some (.box b (ce x))))
variable {P:Program}{S:Nat->Spc}{f:Nat}{im:List Nat}{cc:CC}{rs:List aj}{N:Nat}
theorem B4{ce:X->List D}{cf:Y->List D}{pre:X->Prop}{post:X->Y->Prop}(hS:∀f,Tri dq P f (S f).pt)(h:aq P f im cc rs N)(hN:2<=N)(hw:J9 cc rs S ce cf pre post):Tri dq P f (qgY ce cf pre post).pt:=by
 obtain⟨pR,enter,fn,code,h1,h2,h3,h4,h5⟩:=h;refine Nt hS pR h1 h2 enter h3 h4 h5 ?_;rintro ds H d K ⟨L,id,b,x,rfl,hid,hp,hK⟩;refine⟨hN, [.tape L, .bptr 1 b 0],ai cw 1 (some (.box b (ce x))),λ_=>id, .cons (.same _) (.cons (.bptr _ _ _ _) .nil),λi r h=>?_,λi j r s h h' _=>?_,_,hw L b x hp,?_⟩
 ·by_cases e:i=1
  ·subst e;simp only[ai,if_true]at h;cases h;exact hid
  ·simp[ai,e,cw]at h
 ·have a:i=1:=by
   by_cases e:i=1
   ·exact e
   ·simp[ai,e,cw]at h
  have b:j=1:=by
   by_cases e:j=1
   ·exact e
   ·simp[ai,e,cw]at h'
  exact a.trans b.symm
 ·rintro r H' ⟨y,cs,rfl,hj,hz,hpost⟩;have hW:=Xx (H:=H') 1 b cs (cf y) [] hj hz.get.1 hz.get.2;have hj:left 1 b (cf y) [] H' 1=some (.box b (cf y)):=rfl;refine⟨.tup [],left 1 b (cf y) [] H',cw,ai H id (some (.box b (cf y))),λi=>if i=id then some 1 else none,hW, .same _,λj q h=>by simp[cw]at h,hK y hpost,λi s hi=>?_,λi j' k s q hi hj' e1 e2=>?_⟩
  ·by_cases e:i=id
   ·subst e;simp only[ai,if_true]at hi;cases hi;simpa using hj
   ·simp only[ai,e,if_false]at hi ⊢;exact⟨hi,λk q h he=>e he.symm⟩
  ·have a:i=id:=by
    by_cases e:i=id
    ·exact e
    ·simp[e]at e1
   have b:j'=id:=by
    by_cases e:j'=id
    ·exact e
    ·simp[e]at e2
   exact a.trans b.symm
end
end Go.Gv
namespace Go.Gv
open Cod (enc dec)
variable {S S0:Nat->Spc}
def VV:Vp Fk Ej S:=by
 intro l;simp[Fk,Ej, -List.map_take,uB,zz];omega
def qfE(c:Corpus):List D:=[enc c.attrs,enc c.toks,enc c.texts,enc c.regs, .v (.slice none 0 0), .v (.slice none 0 0), .v (.slice none 0 0)]
def Xd(c:Corpus):List D:=[enc c.attrs,enc c.toks,enc c.texts,enc c.regs,enc c.nodes, .v (.slice none 0 0), .v (.slice none 0 0)]
def qdv(c:Corpus):List D:=[enc c.attrs,enc c.toks,enc c.texts,enc c.regs,enc c.nodes,enc c.heads,enc c.rels]
end Go.Gv
namespace Go.Gv
section
variable {S:Nat->Spc}{σ:Sg}{H:ab}{K:Ex->Sg->ab->Prop}
theorem vT{X:Type}(ks hk gv0 gv:List Nat)(RL rn:List (Nat×Nat))(P:X->Prop)(sl:X->List (Nat×D))(hp:X->List (Nat×Res))(m:X->Nat)(x0:X)(ids:List Nat)(hids:∀x,(hp x).map (·.1)=ids)
 (hi0:qbS RL (ids++hk) gv0/\∀i∈hk,i∉ids->RK RL i=i) (hi:qbS rn (ids++hk) gv/\∀i∈hk,i∉ids->RK rn i=i) {k:Nat} {b:CC} (h0:P x0)
 (hs:vO (N1 gv0 H) (sl x0) σ) (hh:tF (N1 gv0 H) RL (hp x0) H)
 (hr:∀x,P x->vc S b (RR P (λy=>VH σ H ks hk gv rn (sl y) (hp y)) m x K) (pH (sl x) (gV ks σ)) (eB (hp x) (iD hk H))):vc S (.loop k b) K σ H:=by
 rw[JQ];refine⟨⟨X,P,λx=>pH (sl x) (gV ks σ),λx=>eB (hp x) (iD hk H),m⟩,⟨x0,h0,A5 (by rw[hids x0];exact hi0.1) (by rw[hids x0];exact hi0.2) hs (λ_ _=>rfl) hh (λ_ _=>rfl)⟩,λx hx=>rQ b _ _ (λe σ' H' h=>?_) (hr x hx)⟩;cases e with
 | norm=>
   obtain⟨y,h1,h2,h3⟩:=h;exact⟨y,h1,A5 (by rw[hids y];exact hi.1) (by rw[hids y];exact hi.2) h2.1 h2.2.1 h2.2.2.1 h2.2.2.2,h3⟩
 | ex i=>exact h
 | ret=>exact h
end
open Cod (enc dec)
variable {S S0:Nat->Spc}
def Ld(l:List B):List D:=l.map enc
def Lc(a b:B):D.list 1 [.v (.string a), .v (.string b)]= .list 1 (Ld [a,b]):=id rfl
def Si(a b c:B):D.list 1 [.v (.string a), .v (.string b), .v (.string c)]= .list 1 (Ld [a,b,c]):=id rfl
def mr(l:List B):(Ld l).length=l.length:=by simp[Ld]
def qa(l:List B)(i:Nat)(d:D):((Ld l)[i]? =some d)=∃s,l[i]? =some s/\ .v (.string s)=d:=by
 simp[Ld]
def VE(n:Nat)(ns:List rK):Prop:=(∀x∈ns,0<=x.b/\x.b<=n/\0<=x.e/\x.e<=n)/\∀ (j:Nat) (y:rK),ns[j]? =some y->y.par < j
def Ka(c c':Corpus):Prop:=∃ns,c'={ c with nodes:=ns } /\ns.length<=6/\VE c.toks.length ns
def wh(c:Corpus):Prop:=c.toks.length<=4096
theorem Qk(h1:S cZ=s_m_Next):J9 nn mV S qfE Xd wh Ka:=by
 intro L b c hc;have hc:c.toks.length<=4096:=hc;simp[nn,mV,h1,qfE];intro _ k hk0 hk1;refine vT (X:=Int×Int×Value×List rK) [0,1,4] [] [] [] [] [] (λx=>0<=x.1/\x.1<=c.toks.length/\0<=x.2.1/\2*x.2.1+x.2.2.2.length<=6/\VE c.toks.length x.2.2.2) (λx=>[(5,enc x.1),(6,enc x.2.1)]) (λx=>[(1, .box b [enc c.attrs,enc c.toks,enc c.texts,enc c.regs, .own 61 x.2.2.1, .v (.slice none 0 0), .v (.slice none 0 0)]),(61, .row x.2.2.1 pX 4 (x.2.2.2.map enc))]) (λx=>x.2.1.toNat) (0,k, .slice none 0 0, []) [1,61] (λ_=>rfl) (by decide) (by decide) ?_ ?_ ?_ ?_
 ·simp[VE];omega
 ·simp
 ·simp[isNilRow];exact .nilown 61
 ·rintro⟨at_,k,v,l⟩ ⟨q1,q2,q3,q4,q5⟩;simp only at q1 q2 q3 q4 q5;simp[h1,Lc,mr,qa];have sK:Zd Xd b (Ka c) (D.tup []) (ai (ai (ai (λx=>none) 96 none) 61 (some (Res.row v pX 4 (List.map enc l)))) 1 (some (Res.box b [D.list 2 (List.map enc c.attrs),D.list 1 (List.map enc c.toks),D.list 4 (List.map enc c.texts),D.list 4 (List.map enc c.regs),D.own 61 v,D.v (Value.slice none 0 0),D.v (Value.slice none 0 0)]))):=by
   refine⟨{ c with nodes:=l },_,rfl,rfl,?_,⟨l,rfl,by omega,q5⟩⟩;simp[Xd];exact iM pX rfl
  refine⟨λhk=>⟨λhat y hy0 hy1=>⟨by simp only[InR];omega,λ_=>sK,λhb=>⟨by simp only[InR];omega,by simp only[InR];omega,by omega,λy1 hy1'=>⟨by simp only[InR];omega,λ_ z hz0 hz1=>⟨hz0,hz1,λlb hlb=>⟨by omega,by omega,λv1=>?_⟩⟩⟩⟩⟩,λ_=>sK⟩,λ_=>sK⟩;have hb0:0<=at_+y:=by omega
  generalize at_+y=b' at*;have he:b'+1+y1<=c.toks.length/\0<=y1:=by omega
  generalize hee:b'+1+y1=e' at*;have ok1:VE c.toks.length (l++ [⟨lb,b',e', -1⟩]):=by
   refine⟨λx hx=>?_,λj x hx=>?_⟩
   ·rcases qml.1 hx with hx|hx
    ·exact q5.1 x hx
    ·simp at hx;subst hx;simp only;omega
   ·by_cases e:j < l.length
    ·rw[qmr e]at hx;exact q5.2 j x hx
    ·rw[qmn (by omega)]at hx;have hx:=qme hx;simp at hx;subst hx;simp only;omega
  refine cm (X:=Value×List rK) [0,1,4,6,8] [] (λx=>x.2.length<=l.length+2/\VE c.toks.length x.2) (λ_=>[]) (λx=>[(1, .box b [enc c.attrs,enc c.toks,enc c.texts,enc c.regs, .own 61 x.1, .v (.slice none 0 0), .v (.slice none 0 0)]),(61, .row x.1 pX 4 (x.2.map enc))]) ?_ ?_
  ·simp[h1,Lc,mr,qa];refineλu hu0 hu1=>⟨λ_=>⟨by simp only[InR];omega,by omega,λy2 hy2=>⟨by simp only[InR];omega,λz2 hz20 hz21=>⟨hz20,hz21,λlb2 _=>⟨by simp only[InR];omega,by simp only[InR];omega,by omega,λy3 hy3=>⟨by simp only[InR];omega,by omega,by omega,λv2=>⟨v2,l++ [⟨lb,b',e', -1⟩] ++ [⟨lb2,b'+y2,b'+y2+1+y3,l.length⟩],⟨by simp,?_⟩, .inl rfl, .inl ⟨rfl,by simp⟩⟩⟩⟩⟩⟩⟩,λ_=>⟨v1,l++ [⟨lb,b',e', -1⟩],⟨by simp,ok1⟩, .inl rfl, .inl ⟨rfl,by simp⟩⟩⟩
   refine⟨λx hx=>?_,λj x hx=>?_⟩
   ·rcases qml.1 hx with hx|hx
    ·exact ok1.1 x hx
    ·simp at hx;subst hx;simp only;omega
   ·by_cases e:j < (l++ [(⟨lb,b',e', -1⟩:rK)]).length
    ·rw[qmr e]at hx;exact ok1.2 j x hx
    ·rw[qmn (by omega)]at hx;have hx:=qme hx;simp at hx;subst hx;simp at e;simp only;omega
  ·rintro⟨v2,l2⟩ ⟨r1,r2⟩;simp only at r1 r2;simp;exact⟨by simp only[InR];omega,e',k -1,v2,l2,⟨by omega,by omega,by omega,by omega,r2⟩,⟨⟨rfl,rfl⟩, .inl (.inl rfl), .inl (.inl rfl)⟩,by omega⟩
end Go.Gv
namespace Go.Gv
def RP{σ:Sg}{H:ab}(t id:Nat)(x:Value)(el n:Nat)(es:List D)(h1:σ t= .own id x)(h2:H id=some (.row x el n es)):Wk σ H (upd σ t (.sub id x n 0 es.length)) H:=by
 intro E a w ⟨hd,hN,tp,hw,hr⟩;refine⟨hd,hN,tp,hw,λs=>?_⟩;unfold upd;split
 ·rename_i e;subst e;have h3:=hr s;rw[h1]at h3;have e1:a.tmps.getD s undef=x:=by
   generalize a.tmps.getD s undef=y at h3;cases h3;rfl
  obtain⟨xs,⟨_,h4⟩,_⟩:=hw.sat.ok id _ h2;rw[e1];rcases h4 with⟨rfl,h5⟩|⟨g,cap,cur,rfl,_,_,h6,h7,_⟩
  ·rw[h5];exact .subnil id n
  ·exact .sub id g es.length cap n 0 es.length _ (qmG _) (qmm _) h6 h7 (λ_=>by simp)
 ·exact hr s
open Cod (enc dec) in
def qdD{X:Type}[Cod X]{H:ab}{id n hi:Nat}{v:Value}{l:List X}(el:Nat)(h:H id=some (.row v el n (l.map enc)))(hh:hi=l.length)(hn:n=Cod.wd X:=by rfl):FrzTo H (.sub id v n 0 hi) (.list n (l.map enc)):=by
 subst hh;have e:((l.map (enc (X:=X))).take l.length).drop 0=l.map enc:=by
  rw[List.drop_zero,qnD (by simp)]
 refine .sub h (by rw[e]) (λd hd=>?_) (λk c c' h1 h2=>?_)
 ·obtain⟨x,_,rfl⟩:=qmo.1 hd;exact⟨Cod.kn x,(Cod.wid x).trans hn.symm⟩
 ·rw[e,h2]at h1;cases h1;exact .same _
open Cod (enc dec)
variable {S S0:Nat->Spc}
def Yw(n:Nat)(hs:List Int)(rs:List B):Prop:=hs.length=n/\rs.length=n/\∀h∈hs,h<=n
def P7(c c':Corpus):Prop:=∃hs rs,c'={ c with heads:=hs,rels:=rs } /\hs.length<=c.toks.length/\rs.length<=c.toks.length/\∀h∈hs,h<=c.toks.length
theorem Ql(h1:S cZ=s_m_Next):J9 nq mX S Xd qdv wh P7:=by
 intro L b c hc;have hc:c.toks.length<=4096:=hc;simp[nq,mX,h1,Xd];intro _;refine vT (X:=Int×List Int) [0,1,4] [1] [] [27] [] [] (λx=>0<=x.1/\x.1<=c.toks.length/\(x.2.length:Int)=x.1/\∀y∈x.2,0<=y/\y < c.toks.length) (λx=>[(5,enc x.2),(6,enc x.1)]) (λx=>[]) (λx=>c.toks.length -x.1.toNat) (0, []) [] (λ_=>rfl) (by decide) (by decide) ?_ ?_ ?_ ?_
 ·simp
 ·simp
 ·simp
 ·rintro⟨i,l⟩ ⟨q1,q2,q3,q4⟩;simp only at q1 q2 q3 q4;simp[h1];refine⟨λhi=>⟨by simp only[InR];omega,by omega,λy hy=>?_⟩,λhi=>?_⟩
  ·have e:List.take y.toNat (List.map enc l) ++D.v (.int .i64 i)::List.drop y.toNat (List.map enc l)=(l.take y.toNat++i::l.drop y.toNat).map enc:=by simp
   refine⟨by omega,by omega,by omega,by omega,by omega,by omega,by omega,by omega,by omega,by omega,λv=>⟨by simp only[InR];omega,i+1,l.take y.toNat++i::l.drop y.toNat,⟨by omega,by omega,?_,λz hz=>?_⟩,⟨?_,rfl⟩,by omega⟩⟩
   ·simp;omega
   ·rcases qml.1 hz with hz|hz
    ·exact q4 z (qmy hz)
    ·rcases qmw.1 hz with hz|hz
     ·omega
     ·exact q4 z (qmV hz)
   ·rw[e];exact iM fP (by simp[N1])
  ·have hil:l.length=c.toks.length:=by omega
   refine⟨by omega,by omega,λv8=>⟨by omega,by omega,λv9=>?_⟩⟩;refine cm (X:=Bool×List Int×List B) [1] [1] (λx=>Yw c.toks.length x.2.1 x.2.2) (λx=>[(8, .sub 40 v8 1 0 c.toks.length),(9, .sub 42 v9 1 0 c.toks.length),(10,enc x.1)]) (λx=>[(40, .row v8 fP 1 (x.2.1.map enc)),(42, .row v9 ar 1 (x.2.2.map enc))]) ?_ ?_
   ·simp[-Bool.exists_bool];intro _;refine GF ((RP 8 40 v8 fP 1 _ rfl rfl).trans (RP 9 42 v9 ar 1 _ rfl rfl)) ?_;simp only[qb4];refine ak (X:=Bool×List Int×List B) [0,1,5,8,9,43] [1] l.length (λ_ x=>Yw c.toks.length x.2.1 x.2.2) (λx=>[(10,enc x.1)]) (λx=>[(40, .row v8 fP 1 (x.2.1.map enc)),(42, .row v9 ar 1 (x.2.2.map enc))]) (false,List.replicate c.toks.length 0,List.replicate c.toks.length ⟨#[]⟩) (by simp) (by simp) (by omega) (by simp) (by simp) (by simp[Yw]) (by simp) (by simp) ?_ ?_
    ·rintro k ⟨sm,hs,rs⟩ hk ⟨p1,p2,p3⟩;simp only at p1 p2 p3;obtain⟨x,hx⟩:=eX hk;obtain⟨_,hgx⟩:=qmb.1 hx;have hxr:=q4 x (fV hx);simp[hk,hx,hgx, -Bool.exists_bool];refine⟨by omega,by omega,by omega,λa ha=>?_⟩;have e1:(List.map enc hs).set x.toNat (D.v (Value.int .i64 (-1)))=(hs.set x.toNat (-1)).map enc:=gp hs _ _;rw[e1];have p1':(hs.set x.toNat (-1)).length=c.toks.length:=by simp[p1]
     have p3':∀h∈hs.set x.toNat (-1),h<=c.toks.length:=λh hh=>by
      rcases qm2 hh with hh|hh
      ·exact p3 h hh
      ·omega
     generalize hs.set x.toNat (-1)=hs1 at p1' p3' ⊢;clear p1 p3 ha e1;refine cm (X:=List Int×List B) [0,1,5,8,9,10,12,43,44,45] [1] (λx=>Yw c.toks.length x.1 x.2) (λ_=>[]) (λx=>[(40, .row v8 fP 1 (x.1.map enc)),(42, .row v9 ar 1 (x.2.map enc))]) ?_ ?_
     ·simp[h1,Si,mr,qa, -Bool.exists_bool];have hlx:∀ (y:Int),hs1.length=c.toks.length->∃z,hs1[x.toNat]? =some z:=λ_ _=>eX (by omega)
      refine⟨λhk0 y _ _=>⟨λ_=>⟨by omega,λy2 hy2=>⟨by omega,by omega,λa ha y3 hy30 hy31=>⟨hy30,hy31,λs _=>⟨by omega,by omega,by omega,λz _=>⟨by omega,by omega,by omega,λz2 _=>⟨hs1.set x.toNat a,rs.set x.toNat s,⟨by simp[p1'],by simp[p2],λh hh=>?_⟩, .inl (gp hs1 _ _), .inl (gp rs _ _)⟩⟩⟩⟩⟩⟩,λ_=>⟨hs1,rs,⟨p1',p2,p3'⟩, .inl rfl, .inl rfl⟩⟩,λ_=>⟨hs1,rs,⟨p1',p2,p3'⟩, .inl rfl, .inl rfl⟩⟩;rcases qm2 hh with hh|hh
      ·exact p3' h hh
      ·have:=q4 a (fV ha);omega
     ·rintro⟨hs2,rs2⟩ ⟨r1,r2,r3⟩;simp only at r1 r2 r3;simp[-Bool.exists_bool];refine⟨λ_=>⟨by omega,by omega,by omega,λa _=>⟨λ_=>⟨by omega,by omega,by omega,λa2 _=>⟨!decide (a2=⟨#[]⟩),hs2,rs2,⟨r1,r2,r3⟩,by simp, .inl rfl, .inl rfl⟩⟩,λ_=>⟨true,hs2,rs2,⟨r1,r2,r3⟩,by simp, .inl rfl, .inl rfl⟩⟩⟩,λ_=>⟨true,hs2,rs2,⟨r1,r2,r3⟩,by simp, .inl rfl, .inl rfl⟩⟩
    ·rintro⟨sm,hs,rs⟩ ⟨p1,p2,p3⟩;simp only at p1 p2 p3;simp[-Bool.exists_bool];exact⟨sm,hs,rs,⟨p1,p2,p3⟩,rfl, .inl rfl, .inl rfl⟩
   ·rintro⟨sm,hs,rs⟩ ⟨p1,p2,p3⟩;simp only at p1 p2 p3;simp;refine⟨λ_=>⟨{ c with heads:=hs,rels:=rs },_,rfl,rfl,?_,⟨hs,rs,rfl,by omega,by omega,p3⟩⟩,λ_=>⟨{ c with heads:=[],rels:=[] },_,rfl,rfl,?_,⟨[], [],rfl,by simp,by simp,by simp⟩⟩⟩
    ·simp[qdv];exact⟨qdD fP rfl p1.symm,qdD ar rfl p2.symm⟩
    ·simp[qdv]
abbrev s_m_word:Spc:=aY (a1 Int) (λn=>0<=n/\n < 6) (enc (X:=B)) λ_ y=>y∈vM
def RT:av BQ Bt S (a1 Int) (λn=>0<=n/\n < 6) (enc (X:=B)) λ_ y=>y∈vM:=by
 rintro n hn;have hn:0<=n/\n < 6:=hn;simp[BQ,Bt];refine⟨hn.1,hn.2,?_⟩;have:n=0\/n=1\/n=2\/n=3\/n=4\/n=5:=by omega
 rcases this with rfl|rfl|rfl|rfl|rfl|rfl <;> simp[vM]
abbrev s_m_tag:Spc:=aY (a1 Int) (λn=>0<=n/\n < 2) (enc (X:=B)) λ_ y=>y∈FA
def VU:av Fj Ei S (a1 Int) (λn=>0<=n/\n < 2) (enc (X:=B)) λ_ y=>y∈FA:=by
 rintro n hn;have hn:0<=n/\n < 2:=hn;simp[Fj,Ei];refine⟨hn.1,hn.2,?_⟩;have:n=0\/n=1:=by omega
 rcases this with rfl|rfl <;> simp[FA]
abbrev s_m_features:Spc:=aY (a1 Int) (λn=>0<=n/\n < 4) (enc (X:=B)) λ_ y=>y∈FsetL
def Ih:av qR qx S (a1 Int) (λn=>0<=n/\n < 4) (enc (X:=B)) λ_ y=>y∈FsetL:=by
 rintro n hn;have hn:0<=n/\n < 4:=hn;simp[qR,qx];refine⟨hn.1,hn.2,?_⟩;have:n=0\/n=1\/n=2\/n=3:=by omega
 rcases this with rfl|rfl|rfl|rfl <;> simp[FsetL]
abbrev s_m_Type:Spc:=aY (a1 Int) bw (enc (X:=B)) ml
def RU(h1:S qh=s_m_Mod):av rC rf S (a1 Int) bw (enc (X:=B)) ml:=by
 rintro n -;simp[rC,rf,h1];have h3:=EK n 3 (by omega);refine⟨h3.1,h3.2,?_⟩;have:BF n 3=0\/BF n 3=1\/BF n 3=2:=by omega
 rcases this with h|h|h <;> simp[h]
abbrev s_m_Attributes:Spc:=aY a0 bw (enc (X:=List Attr)) (λ_ l=>Zc l)
def DO:av nr mY S a0 bw (enc (X:=List Attr)) (λ_ l=>Zc l):=by
 rintro x -;simp[nr,mY];exact cp (Y:=List Attr) [⟨⟨#[119,111,114,100]⟩,false⟩,⟨⟨#[116,97,103]⟩,false⟩,⟨⟨#[102,101,97,116]⟩,true⟩] (by simp) rfl
end Go.Gv
