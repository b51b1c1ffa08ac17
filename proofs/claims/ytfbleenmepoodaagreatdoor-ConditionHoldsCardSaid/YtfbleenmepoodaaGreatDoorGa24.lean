/- A part of the framework and of the walks: V57 W13 T18 W14 T19 W15 T20 W16 T21 W18 W9. -/
import Derived.Test.YtfbleenmepoodaaGreatDoorGa23
set_option linter.unusedSimpArgs false
set_option linter.unusedVariables false
set_option linter.unusedSectionVars false
set_option linter.defProp false
set_option maxRecDepth 100000
namespace Go.Gv
def um:List B:=[⟨#[97]⟩,⟨#[98]⟩,⟨#[99]⟩,⟨#[65]⟩,⟨#[97,98]⟩,⟨#[]⟩]
def DT:List B:=[⟨#[88]⟩,⟨#[89]⟩]
def FsetL:List B:=[⟨#[124]⟩,⟨#[124,112,124]⟩,⟨#[124,112,124,113,124]⟩,⟨#[124,113,124]⟩]
def dC:List Attr:=[⟨⟨#[119,111,114,100]⟩,false⟩,⟨⟨#[116,97,103]⟩,false⟩,⟨⟨#[102,101,97,116]⟩,true⟩]
def Wm(l:List Attr):Prop:=l=dC
def zg(r:List B):Prop:=∃w t f,w∈um/\t∈DT/\f∈FsetL/\r=[w,t,f]
def Ib(c:Corpus):Prop:=c.attrs=dC/\∀r∈c.toks,zg r
open Cod (enc dec)
variable {S S0:Nat->Spc}
def RI{a b c:Corpus}(ha:Ib a)(hb:Ib b)(h:c.attrs=a.attrs/\c.toks=a.toks++b.toks):Ib c:=by
 refine⟨h.1.trans ha.1,λr hr=>?_⟩;rw[h.2]at hr;rcases qjM.1 hr with hr|hr
 ·exact ha.2 r hr
 ·exact hb.2 r hr
abbrev s_m_Document:Spc:=aZ (aT (a2 B Int)) (λx=>1<=x.2.2/\x.2.2<=1000) (enc (X:=Corpus)) (λx c=>K9 c/\Ib c/\(c.toks.length:Int)<=x.2.2)
abbrev s_m_Corpus:Spc:=aZ (aT (a1 Int)) (λx=>1<=x.2/\x.2<=1000) (enc (X:=Corpus)) (λx c=>K9 c/\Ib c/\(c.toks.length:Int)<=3*x.2)
theorem Lj(h1:S cL=s_m_Next)(h2:S jJ=s_m_Document)(h3:S rD=s_r06_Concat):ax kS kF S (aT (a1 Int)) (λx=>1<=x.2/\x.2<=1000) (enc (X:=Corpus)) (λx c=>K9 c/\Ib c/\(c.toks.length:Int)<=3*x.2):=by
 rintro⟨L,n⟩ hn;have hn:1<=n/\n<=1000:=hn;simp[kS,kF,h1,h2,hn];intro b y hy hyk hyl b1 k hk0 hk1;refine aL (X:=Int×Corpus) [0,1,4,5] [4] (λx=>0<=x.1/\x.1<=2/\K9 x.2/\Ib x.2/\(x.2.toks.length:Int) +x.1*n<=3*n) (λx=>[(6,enc x.1)]) (λx=>[(5, .box b1 (enc x.2).cells)]) (λx=>x.1.toNat) (k,y) ⟨hk0,by omega,hy,hyk,by
  have:k=0\/k=1\/k=2:=by omega
  show(y.toks.length:Int) +k*n<=3*n;rcases this with rfl|rfl|rfl <;> omega⟩ (by simp) (by simp) ?_
 rintro⟨k,c⟩ ⟨q1,q2,q3,q4,q5⟩;simp only at q1 q2 q3 q4 q5;simp[h1,h2,h3,hn];refine⟨λhk=>⟨by omega,by omega,?_⟩,λhk=>?_⟩
 ·have:k=1\/k=2:=by omega
  rcases this with rfl|rfl
  all_goals
   simp[hn];refineλy hy hyk hyl=>⟨⟨q3,hy⟩,λa e he=>⟨λh0=>⟨by simp[InR],_,a,⟨?_,?_,(he h0).1,RI q4 hyk (he h0).2,by
    have e:=(he h0).2.2;simp only at e;rw[e,qj4];omega⟩,⟨rfl, .inl ⟨rfl,rfl,rfl,rfl,rfl,rfl,rfl⟩⟩,?_⟩,λh0=>⟨by simp[InR],_,c,⟨?_,?_,q3,q4,by omega⟩,⟨rfl, .inl ⟨rfl,rfl,rfl,rfl,rfl,rfl,rfl⟩⟩,?_⟩⟩⟩
   all_goals omega
 ·have:k=0:=by omega
  subst this;exact dm c (by simp) ⟨q3,q4,by show(c.toks.length:Int)<=3*n;omega⟩
end Go.Gv
namespace Go.Gv
def RFz(Hf:aa):Res->Res->Prop
 | .box b cs, .box b' cs'=>b=b'/\cs.length=cs'.length/\∀ (m:Nat) (c c':D),cs[m]? =some c->cs'[m]? =some c'->FrzTo Hf c c'
 | .row x el n es, .row x' el' n' es'=>x=x'/\el=el'/\n=n'/\es.length=es'.length/\(∀d∈es',d.kn=true/\d.cells.length=n)/\∀ (m:Nat) (c c':D),es[m]? =some c->es'[m]? =some c'->∀ (j:Nat) (e e':D),c.cells[j]? =some e->c'.cells[j]? =some e'->FrzTo Hf e e'
 | .tbox el b cs, .tbox el' b' cs'=>el=el'/\b=b'/\cs.length=cs'.length/\∀ (m:Nat) (c c':D),cs[m]? =some c->cs'[m]? =some c'->FrzTo Hf c c'
 | .mrow x es, .mrow x' es'=>x=x'/\es.length=es'.length/\∀ (m:Nat) (c c':D),es[m]? =some c->es'[m]? =some c'->FrzTo Hf c c'
 | r,r'=>r=r'
def RFz.blk{Hf:aa}{r r':Res}(h:RFz Hf r r'):r'.blk=r.blk:=by
 cases r <;> cases r' <;> simp only[RFz]at h
 ·obtain⟨rfl,_⟩:=h;rfl
 all_goals first
  | (obtain⟨rfl,rfl,rfl,_⟩:=h;rfl)
  | (obtain⟨rfl,rfl,_⟩:=h;rfl)
  | (obtain⟨rfl,_⟩:=h;rfl)
  | (cases h;done)
  | (cases h;rfl)
theorem RFz.ok{tp I I':Nat->Prop}{w:World}{Hf:aa}{r r':Res}(h:RFz Hf r r')(hr:ResOk (R tp I w) w r)(hok:∀i q,Hf i=some q->ResOk (R tp I w) w q)(hI:∀b,I b->I' b)(hb:∀i q b,Hf i=some q->q.blk=some b->I' b):ResOk (R tp I' w) w r':=by
 have fz:∀ {c c':D} {y:Value},FrzTo Hf c c'->R tp I w y c->R tp I' w y c':=λh hr=>h.R (H:=cv) hok hI hb hr
 have same:ResOk (R tp I' w) w r:=hr.conv (λx d hr=>hr.mono (λ_ h=>h) (λb hb=>⟨hI b hb,rfl⟩) (λb _=> .refl _ _)) (λ_ _=>rfl);cases r with
 | box b cs=>
   cases r' with
   | box b' cs'=>
     obtain⟨rfl,hl,hc⟩:=h;obtain⟨xs,el,h1,h2,h3⟩:=hr;refine⟨xs,el,h1,h2.trans hl,λk y c hy hc'=>?_⟩;have hk:k < cs.length:=by rw[hl];exact(qjA.1 hc').1
     have h4:=h3 k y cs[k] hy (qjC hk);exact⟨h4.1,fz (hc k _ _ (qjC hk) hc') h4.2⟩
   | row x el n es=>cases h
   | iter b s p=>cases h
   | tbox b s p=>cases h
   | mrow=>cases h
   | miter=>cases h
   | raw=>cases h
 | iter b s p=>
   cases r' with
   | box b' cs'=>cases h
   | row x el n es=>cases h
   | iter b' s' p'=>cases h;exact same
   | tbox b' s' p'=>cases h
   | mrow=>cases h
   | miter=>cases h
   | raw=>cases h
 | tbox b s p=>
   cases r' with
   | box b' cs'=>cases h
   | row x el n es=>cases h
   | iter b' s' p'=>cases h
   | mrow=>cases h
   | miter=>cases h
   | raw=>cases h
   | tbox b' s' cs'=>
     obtain⟨rfl,rfl,hl,hc⟩:=h;obtain⟨xs,h1,h2,h3⟩:=hr;refine⟨xs,h1,h2.trans hl,λk y c hy hc'=>?_⟩;have hk:k < p.length:=by rw[hl];exact(qjA.1 hc').1
     have h4:=h3 k y p[k] hy (qjC hk);exact⟨h4.1,fz (hc k _ _ (qjC hk) hc') h4.2⟩
 | row x el n es=>
   cases r' with
   | box b' cs'=>cases h
   | iter b' s' p'=>cases h
   | tbox b' s' p'=>cases h
   | mrow=>cases h
   | miter=>cases h
   | raw=>cases h
   | row x' el' n' es'=>
     obtain⟨rfl,rfl,rfl,hl,hkn,hc⟩:=h;obtain⟨xs,h1,h2,h3⟩:=hr;refine⟨xs,hl ▸h1,hkn,λk y c hy hc'=>?_⟩;have hw:∀d∈es,d.cells.length=n:=λd hd=>(h2 d hd).2
     have hw':∀d∈es',d.cells.length=n:=λd hd=>(hkn d hd).2
     have hfl:=aF hw;have hfl':=aF hw';have hk:k < (aR es).length:=by
      have:=(qjA.1 hc').1;rw[hfl,hl,<-hfl'];exact this
     have hk2:k < es.length*n:=by rw[<-hfl];exact hk
     have hn:0 < n:=by
      rcases qlr n with e|e
      ·subst e;simp at hk2
      ·exact e
     have h4:=h3 k y (aR es)[k] hy (qjC hk);refine⟨h4.1,fz ?_ h4.2⟩;have hdm:k=(k/n) *n+k % n:=by have:=qlb k n;rw[qk5]at this;omega
     have hmod:k % n < n:=qk7 _ hn;have g1:=eF hw (i:=k/n) (j:=k % n) hmod;have g2:=eF hw' (i:=k/n) (j:=k % n) hmod;rw[<-hdm]at g1 g2;rw[hc']at g2;rw[qjC hk]at g1;cases e1:es[k/n]? with
     | none=>rw[e1]at g1;cases g1
     | some c1=>
       cases e2:es'[k/n]? with
       | none=>rw[e2]at g2;cases g2
       | some c2=>
         rw[e1]at g1;rw[e2]at g2;exact hc _ c1 c2 e1 e2 _ _ _ g1.symm g2.symm
 | mrow x es=>
   cases r' with
   | box=>cases h
   | iter=>cases h
   | tbox=>cases h
   | row=>cases h
   | miter=>cases h
   | raw=>cases h
   | mrow x' es'=>
     obtain⟨rfl,hl,hc⟩:=h;obtain⟨b,ents,clock,rfl,h1,h2,h3⟩:=hr;refine⟨b,ents,clock,rfl,h1,h2,h3.1.trans hl,λk e c he hc'=>?_⟩;have hk:k < es.length:=by rw[hl];exact(qjA.1 hc').1
     exact fz (hc k _ _ (qjC hk) hc') (h3.2 k e _ he (qjC hk))
 | miter b c l=>
   cases r' with
   | box=>cases h
   | iter=>cases h
   | tbox=>cases h
   | row=>cases h
   | mrow=>cases h
   | raw=>cases h
   | miter=>cases h;exact same
 | raw k=>
   cases r' with
   | box=>cases h
   | iter=>cases h
   | tbox=>cases h
   | row=>cases h
   | mrow=>cases h
   | miter=>cases h
   | raw k'=>cases h;exact same
def RFe(Hf:aa)(r r':Res):Prop:=r=r'\/RFz Hf r r'
def RFe.blk{Hf:aa}{r r':Res}(h:RFe Hf r r'):r'.blk=r.blk:=by
 rcases h with rfl|h
 ·rfl
 ·exact h.blk
def RFe.ok{tp I I':Nat->Prop}{w:World}{Hf:aa}{r r':Res}(h:RFe Hf r r')(hr:ResOk (R tp I w) w r)(hok:∀i q,Hf i=some q->ResOk (R tp I w) w q)(hI:∀b,I b->I' b)(hb:∀i q b,Hf i=some q->q.blk=some b->I' b):ResOk (R tp I' w) w r':=by
 rcases h with rfl|h
 ·exact hr.conv (λx d hr=>hr.mono (λ_ h=>h) (λb hb=>⟨hI b hb,rfl⟩) (λb _=> .refl _ _)) (λ_ _=>rfl)
 ·exact h.ok hr hok hI hb
def isNilRow.blk'{r:Res}(h:isNilRow r):r.blk=none:=by
 cases r with
 | box b c=>exact h.elim
 | iter b s p=>exact h.elim
 | tbox b s p=>exact h.elim
 | mrow=>exact h.elim
 | miter=>exact h.elim
 | raw=>exact h.elim
 | row x el n es=>obtain⟨rfl,rfl⟩:=h;rfl
theorem PG{σ σ':Sg}{H H' Hf:aa}(ρ:Nat->Nat)(h1:∀t,FrzTo Hf (σ t) (σ' t))(h2:∀i r,H' i=some r->(∃r0,H (ρ i)=some r0/\RFe Hf r0 r)\/isNilRow r)
 (h3:∀i j r s,H' i=some r->H' j=some s->ρ i=ρ j->i=j\/isNilRow r\/isNilRow s) (h4:∀i r,Hf i=some r->H i=some r/\∀j r',H' j=some r'->ρ j=i->isNilRow r'):Wk σ H σ' H':=by
 intro E a w ⟨hd,hN,tp,h,hr⟩;have hblk:∀i r c,H' i=some r->r.blk=some c->∃r0,H (ρ i)=some r0/\r0.blk=some c/\ ¬isNilRow r:=λi r c k1 k2=>by
  have hn:¬isNilRow r:=λhn=>by rw[hn.blk']at k2;cases k2
  rcases h2 i r k1 with⟨r0,k3,k4⟩|k3
  ·exact⟨r0,k3,k4.blk ▸k2,hn⟩
  ·exact absurd k3 hn
 have hown:∀c,bF H' c->bF H c:=λc ⟨i,r,k1,k2⟩=>by
  obtain⟨r0,k3,k4,_⟩:=hblk i r c k1 k2;exact⟨ρ i,r0,k3,k4⟩
 have himm:∀c,aI E.O tp H w c->aI E.O tp H' w c:=λc hb=>⟨hb.1,hb.2.1,hb.2.2.1,λho=>hb.2.2.2 (hown c ho)⟩
 have hfok:∀i q,Hf i=some q->ResOk (R tp (aI E.O tp H w) w) w q:=λi q hq=>h.sat.ok i q (h4 i q hq).1
 have hfb:∀i q b,Hf i=some q->q.blk=some b->aI E.O tp H' w b:=λi q b hq hb=>by
  obtain⟨k1,k2⟩:=h4 i q hq;have ho:=h.sat.out i q b k1 hb;refine⟨(h.sat.ok i q k1).lt hb,ho.1,ho.2,λ⟨j,s,k3,k4⟩=>?_⟩;obtain⟨s0,k5,k6,k7⟩:=hblk j s b k3 k4;exact k7 (k2 j s k3 (h.sat.dis (ρ j) i s0 q b k5 k1 k6 hb))
 have move:∀x d,R tp (aI E.O tp H w) w x d->R tp (aI E.O tp H' w) w x d:=λx d hr=>
  hr.mono (λ_ h=>h) (λb hb=>⟨himm b hb,rfl⟩) (λb _=> .refl _ _)
 refine⟨hd,hN,tp,⟨h.hO,h.tpx,h.tpn,h.tpl,h.step,λb hb=>h.loc b (hown b hb),⟨λi j r s c k1 k2 k3 k4=>?_,λi r c k1 k2=>?_,λi r k1=>?_⟩⟩,λt=>(h1 t).R (H:=cv) hfok himm hfb (hr t)⟩
 ·obtain⟨r0,a1,a2,a3⟩:=hblk i r c k1 k3;obtain⟨s0,b1,b2,b3⟩:=hblk j s c k2 k4;rcases h3 i j r s k1 k2 (h.sat.dis _ _ r0 s0 c a1 b1 a2 b2)with e|e|e
  ·exact e
  ·exact absurd e a3
  ·exact absurd e b3
 ·obtain⟨r0,a1,a2,_⟩:=hblk i r c k1 k2;exact h.sat.out _ r0 c a1 a2
 ·rcases h2 i r k1 with⟨r0,k3,k4⟩|k3
  ·exact k4.ok (h.sat.ok _ r0 k3) hfok himm hfb
  ·cases r with
   | box b c=>exact k3.elim
   | iter b s p=>exact k3.elim
   | tbox b s p=>exact k3.elim
   | mrow=>exact k3.elim
   | miter=>exact k3.elim
   | raw=>exact k3.elim
   | row x el n es=>
     obtain⟨rfl,rfl⟩:=k3;exact⟨[],qkR _ _ _ _,by simp,λk y c h=>by simp at h⟩
def uq(Hf:aa):List (Nat×D)->Sg->Prop
 | [],_=>True
 | (t,d)::l,σ=>FrzTo Hf (σ t) d/\uq Hf l σ
@[simp] theorem qas(Hf:aa)(σ:Sg):uq Hf [] σ=True:=id rfl
@[simp] theorem qat(Hf:aa)(t:Nat)(d:D)(l:List (Nat×D))(σ:Sg):uq Hf ((t,d)::l) σ=(FrzTo Hf (σ t) d/\uq Hf l σ):=id rfl
def Px(rn:List (Nat×Nat))(i:Nat):Nat:=(rn.lookup i).getD i
def se(Hf:aa)(rn:List (Nat×Nat)):List (Nat×Res)->aa->Prop
 | [],_=>True
 | (i,r)::l,H=>((∃r0,H (Px rn i)=some r0/\RFe Hf r0 r)\/isNilRow r)/\se Hf rn l H
@[simp] theorem qaq(Hf:aa)(rn:List (Nat×Nat))(H:aa):se Hf rn [] H=True:=id rfl
@[simp] theorem qar(Hf:aa)(rn:List (Nat×Nat))(i:Nat)(r:Res)(l:List (Nat×Res))(H:aa):se Hf rn ((i,r)::l) H=(((∃r0,H (Px rn i)=some r0/\RFe Hf r0 r)\/isNilRow r)/\se Hf rn l H):=id rfl
def L3(gv:List Nat)(H:aa):aa:=λi=>if i∈gv then H i else none
def Zw(rn:List (Nat×Nat))(ids gv:List Nat):Prop:=(∀i∈ids,∀j∈ids,Px rn i=Px rn j->i=j)/\(∀i∈ids,Px rn i∉gv)
instance (rn:List (Nat×Nat)) (ids gv:List Nat):Decidable (Zw rn ids gv):=by unfold Zw;infer_instance
def cB{l:List (Nat×Res)}{H:aa}{i:Nat}{r:Res}(h:fq l H i=some r):(i,r) ∈l\/(i∉l.map (·.1)/\H i=some r):=by
 induction l with
 | nil=>exact .inr ⟨by simp,h⟩
 | cons p l ih=>
   obtain⟨j,q⟩:=p;simp only[fq,aj]at h;split at h
   ·rename_i e;subst e;cases h;exact .inl (by simp)
   ·rename_i e;rcases ih h with h|⟨h1,h2⟩
    ·exact .inl (by simp[h])
    ·exact .inr ⟨by simp[e,h1],h2⟩
def LW{Hf:aa}{rn:List (Nat×Nat)}{l:List (Nat×Res)}{H:aa}{i:Nat}{r:Res}(h:se Hf rn l H)(hm:(i,r) ∈l):(∃r0,H (Px rn i)=some r0/\RFe Hf r0 r)\/isNilRow r:=by
 induction l with
 | nil=>simp at hm
 | cons p l ih=>
   obtain⟨j,q⟩:=p;rcases qjW.1 hm with e|hm
   ·cases e;exact h.1
   ·exact ih h.2 hm
theorem zC{σ0 σ:Sg}{H0 H:aa}{ks hk gv:List Nat}{rn:List (Nat×Nat)}{sl:List (Nat×D)}{hp:List (Nat×Res)}(hi:Zw rn (hp.map (·.1) ++hk) gv)(hid:∀i∈hk,i∉hp.map (·.1)->Px rn i=i)
 (h1:uq (L3 gv H) sl σ) (h2:qC ks σ0 σ) (h3:se (L3 gv H) rn hp H) (h4:ur hk H0 H):Wk σ H (om sl (gC ks σ0)) (fq hp (hL hk H0)):=by
 have hmem:∀i r,fq hp (hL hk H0) i=some r->i∈hp.map (·.1) ++hk:=λi r h=>by
  rcases cB h with h|⟨_,h⟩
  ·exact qjM.2 (.inl (qjN.2 ⟨_,h,rfl⟩))
  ·rw[Dk]at h;split at h
   ·rename_i e;exact qjM.2 (.inr e)
   ·cases h
 refine PG (Hf:=L3 gv H) (Px rn) (λt=>?_) (λi r h=>?_) (λi j r s k1 k2 e=> .inl (hi.1 i (hmem i r k1) j (hmem j s k2) e)) (λi r h=>?_)
 ·clear hi hid h3 hmem
  induction sl with
  | nil=>
    rw[MB,Dj];split
    ·rename_i h;rw[<-h2 t h];exact .same _
    ·exact .any _
  | cons p sl ih=>
    obtain⟨s,d⟩:=p;simp only[om,upd];split
    ·rename_i e;subst e;exact h1.1
    ·exact ih h1.2
 ·rcases cB h with h|⟨h5,h⟩
  ·exact LW h3 h
  ·rw[Dk]at h;split at h
   ·rename_i e;rw[hid i e h5,h4 i e];exact .inl ⟨r,h, .inl rfl⟩
   ·cases h
 ·simp only[L3]at h;split at h
  ·rename_i e;exact⟨h,λj r' k1 k2=>absurd e (k2 ▸hi.2 j (hmem j r' k1))⟩
  ·cases h
@[simp] theorem qhJ(i:Nat):Px [] i=i:=id rfl
def FzL(Hf:aa):List D->List D->Prop
 | [], []=>True
 | a::l,b::r=>FrzTo Hf a b/\FzL Hf l r
 | _,_=>False
@[simp] theorem qh6(Hf:aa):FzL Hf [] []=True:=id rfl
@[simp] theorem qh7(Hf:aa)(a b:D)(l r:List D):FzL Hf (a::l) (b::r)=(FrzTo Hf a b/\FzL Hf l r):=id rfl
def FzL.get{Hf:aa} :∀ {l r:List D},FzL Hf l r->l.length=r.length/\∀ (m:Nat) (c c':D),l[m]? =some c->r[m]? =some c'->FrzTo Hf c c'
 | [], [],_=>⟨rfl,λm c c' h=>by simp at h⟩
 | a::l,b::r,h=>by
   obtain⟨h1,h2⟩:=h;have ih:=FzL.get h2;refine⟨by simp[ih.1],λm c c' e1 e2=>?_⟩;cases m with
   | zero=>simp at e1 e2;subst e1;subst e2;exact h1
   | succ m=>simp at e1 e2;exact ih.2 m c c' e1 e2
@[simp] theorem qcY(Hf:aa)(b:Nat)(cs cs':List D):RFe Hf (.box b cs) (.box b cs')=(cs=cs'\/FzL Hf cs cs'):=by
 refine propext ⟨λh=>?_,λh=>?_⟩
 ·rcases h with h|⟨_,hl,hc⟩
  ·cases h;exact .inl rfl
  ·right
   induction cs generalizing cs' with
   | nil=>cases cs' with
     | nil=>trivial
     | cons b r=>simp at hl
   | cons a l ih=>cases cs' with
     | nil=>simp at hl
     | cons b r=>exact⟨hc 0 a b rfl rfl,ih r (by simpa using hl) λm c c' h1 h2=>hc (m+1) c c' (by simpa using h1) (by simpa using h2)⟩
 ·rcases h with rfl|h
  ·exact .inl rfl
  ·exact .inr ⟨rfl,h.get.1,h.get.2⟩
def Te(σ0:Sg)(H0:aa)(ks hk gv:List Nat)(rn:List (Nat×Nat))(sl:List (Nat×D))(hp:List (Nat×Res))(σ:Sg)(H:aa):Prop:=uq (L3 gv H) sl σ/\qC ks σ0 σ/\se (L3 gv H) rn hp H/\ur hk H0 H
@[simp] theorem qb3(σ0:Sg)(H0:aa)(ks hk gv:List Nat)(rn:List (Nat×Nat))(sl:List (Nat×D))(hp:List (Nat×Res))(σ:Sg)(H:aa):Te σ0 H0 ks hk gv rn sl hp σ H=(uq (L3 gv H) sl σ/\qC ks σ0 σ/\se (L3 gv H) rn hp H/\ur hk H0 H):=id rfl
section
variable {S:Nat->Spc}{σ:Sg}{H:aa}{K:Ex->Sg->aa->Prop}
def kW{X:Type}(ks hk gv:List Nat)(rn:List (Nat×Nat))(P:X->Prop)(sl:X->List (Nat×D))(hp:X->List (Nat×Res)){k:Nat}{a b:CC}(ids:List Nat)(hids:∀x,(hp x).map (·.1)=ids)(hi:Zw rn (ids++hk) gv/\∀i∈hk,i∉ids->Px rn i=i)
 (ha:vc S a (Ri (λσ' H'=>∃x,P x/\Te σ H ks hk gv rn (sl x) (hp x) σ' H') K) σ H)
 (hb:∀x,P x->vc S b K (om (sl x) (gC ks σ)) (fq (hp x) (hL hk H))):vc S (LD k a b) K σ H:=by
 refine TD P _ _ (qG a _ _ (λe σ' H' h=>?_) ha) hb;cases e with
 | norm=>
   obtain⟨x,h1,h2⟩:=h;exact⟨x,h1,zC (by rw[hids x];exact hi.1) (by rw[hids x];exact hi.2) h2.1 h2.2.1 h2.2.2.1 h2.2.2.2⟩
 | ex i=>exact h
 | ret=>exact h
end
open Cod (enc dec)
variable {S S0:Nat->Spc}
end Go.Gv
namespace Go.Gv
variable {dq:Prop}
section
variable {X Y:Type}
def Wn(cf:Y->List D)(b:Nat)(post:Y->Prop)(r:D)(H:aa):Prop:=∃y cs,r= .tup []/\H 1=some (.box b cs)/\FzL (UU 1 [] H) cs (cf y)/\post y
def H4(cc:CC)(rs:List ai)(S:Nat->Spc)(ce:X->List D)(cf:Y->List D)(pre:X->Prop)(post:X->Y->Prop):Prop:=
 ∀L b x,pre x->vc S cc (ra rs λr H'=>Wn cf b (post x) r H') (cR [.tape L, .bptr 1 b 0]) (aj cv 1 (some (.box b (ce x))))
variable {P:Program}{S:Nat->Spc}{f:Nat}{im:List Nat}{cc:CC}{rs:List ai}{N:Nat}
theorem AG{ce:X->List D}{cf:Y->List D}{pre:X->Prop}{post:X->Y->Prop}(hS:∀f,Tri dq P f (S f).pt)(h:aq P f im cc rs N)(hN:2<=N)(hw:H4 cc rs S ce cf pre post):Tri dq P f (qeA ce cf pre post).pt:=by
 obtain⟨rp,enter,fn,code,h1,h2,h3,h4,h5⟩:=h;refine Lu hS rp h1 h2 enter h3 h4 h5 ?_;rintro ds H d K ⟨L,id,b,x,rfl,hid,hp,hK⟩;refine⟨hN, [.tape L, .bptr 1 b 0],aj cv 1 (some (.box b (ce x))),λ_=>id, .cons (.same _) (.cons (.bptr _ _ _ _) .nil),λi r h=>?_,λi j r s h h' _=>?_,_,hw L b x hp,?_⟩
 ·by_cases e:i=1
  ·subst e;simp only[aj,if_true]at h;cases h;exact hid
  ·simp[aj,e,cv]at h
 ·have a:i=1:=by
   by_cases e:i=1
   ·exact e
   ·simp[aj,e,cv]at h
  have b:j=1:=by
   by_cases e:j=1
   ·exact e
   ·simp[aj,e,cv]at h'
  exact a.trans b.symm
 ·rintro r H' ⟨y,cs,rfl,hj,hz,hpost⟩;have hW:=UL (H:=H') 1 b cs (cf y) [] hj hz.get.1 hz.get.2;have hj:left 1 b (cf y) [] H' 1=some (.box b (cf y)):=rfl;refine⟨.tup [],left 1 b (cf y) [] H',cv,aj H id (some (.box b (cf y))),λi=>if i=id then some 1 else none,hW, .same _,λj q h=>by simp[cv]at h,hK y hpost,λi s hi=>?_,λi j' k s q hi hj' e1 e2=>?_⟩
  ·by_cases e:i=id
   ·subst e;simp only[aj,if_true]at hi;cases hi;simpa using hj
   ·simp only[aj,e,if_false]at hi ⊢;exact⟨hi,λk q h he=>e he.symm⟩
  ·have a:i=id:=by
    by_cases e:i=id
    ·exact e
    ·simp[e]at e1
   have b:j'=id:=by
    by_cases e:j'=id
    ·exact e
    ·simp[e]at e2
   exact a.trans b.symm
end
end Go.Gv
namespace Go.Gv
open Cod (enc dec)
variable {S S0:Nat->Spc}
def Tp:SN DH CK S:=by
 intro l;simp[DH,CK, -List.map_take,th,xM];omega
def qdh(c:Corpus):List D:=[enc c.attrs,enc c.toks,enc c.texts,enc c.regs, .v (.slice none 0 0), .v (.slice none 0 0), .v (.slice none 0 0)]
def Uu(c:Corpus):List D:=[enc c.attrs,enc c.toks,enc c.texts,enc c.regs,enc c.nodes, .v (.slice none 0 0), .v (.slice none 0 0)]
def qbb(c:Corpus):List D:=[enc c.attrs,enc c.toks,enc c.texts,enc c.regs,enc c.nodes,enc c.heads,enc c.rels]
end Go.Gv
namespace Go.Gv
section
variable {S:Nat->Spc}{σ:Sg}{H:aa}{K:Ex->Sg->aa->Prop}
theorem uw{X:Type}(ks hk gv0 gv:List Nat)(Py rn:List (Nat×Nat))(P:X->Prop)(sl:X->List (Nat×D))(hp:X->List (Nat×Res))(m:X->Nat)(x0:X)(ids:List Nat)(hids:∀x,(hp x).map (·.1)=ids)
 (hi0:Zw Py (ids++hk) gv0/\∀i∈hk,i∉ids->Px Py i=i) (hi:Zw rn (ids++hk) gv/\∀i∈hk,i∉ids->Px rn i=i) {k:Nat} {b:CC} (h0:P x0)
 (hs:uq (L3 gv0 H) (sl x0) σ) (hh:se (L3 gv0 H) Py (hp x0) H)
 (hr:∀x,P x->vc S b (PH P (λy=>Te σ H ks hk gv rn (sl y) (hp y)) m x K) (om (sl x) (gC ks σ)) (fq (hp x) (hL hk H))):vc S (.loop k b) K σ H:=by
 rw[HJ];refine⟨⟨X,P,λx=>om (sl x) (gC ks σ),λx=>fq (hp x) (hL hk H),m⟩,⟨x0,h0,zC (by rw[hids x0];exact hi0.1) (by rw[hids x0];exact hi0.2) hs (λ_ _=>rfl) hh (λ_ _=>rfl)⟩,λx hx=>qG b _ _ (λe σ' H' h=>?_) (hr x hx)⟩;cases e with
 | norm=>
   obtain⟨y,h1,h2,h3⟩:=h;exact⟨y,h1,zC (by rw[hids y];exact hi.1) (by rw[hids y];exact hi.2) h2.1 h2.2.1 h2.2.2.1 h2.2.2.2,h3⟩
 | ex i=>exact h
 | ret=>exact h
end
open Cod (enc dec)
variable {S S0:Nat->Spc}
def I4(l:List B):List D:=l.map enc
def I3(a b:B):D.list 1 [.v (.string a), .v (.string b)]= .list 1 (I4 [a,b]):=id rfl
def P6(a b c:B):D.list 1 [.v (.string a), .v (.string b), .v (.string c)]= .list 1 (I4 [a,b,c]):=id rfl
def lw(l:List B):(I4 l).length=l.length:=by simp[I4]
def oR(l:List B)(i:Nat)(d:D):((I4 l)[i]? =some d)=∃s,l[i]? =some s/\ .v (.string s)=d:=by
 simp[I4]
def Ta(n:Nat)(ns:List qB):Prop:=(∀x∈ns,0<=x.b/\x.b<=n/\0<=x.e/\x.e<=n)/\∀ (j:Nat) (y:qB),ns[j]? =some y->y.par < j
def H5(c c':Corpus):Prop:=∃ns,c'={ c with nodes:=ns } /\ns.length<=6/\Ta c.toks.length ns
def uH(c:Corpus):Prop:=c.toks.length<=4096
theorem N6(h1:S cL=s_m_Next):H4 ms lV S qdh Uu uH H5:=by
 intro L b c hc;have hc:c.toks.length<=4096:=hc;simp[ms,lV,h1,qdh];intro _ k hk0 hk1;refine uw (X:=Int×Int×Value×List qB) [0,1,4] [] [] [] [] [] (λx=>0<=x.1/\x.1<=c.toks.length/\0<=x.2.1/\2*x.2.1+x.2.2.2.length<=6/\Ta c.toks.length x.2.2.2) (λx=>[(5,enc x.1),(6,enc x.2.1)]) (λx=>[(1, .box b [enc c.attrs,enc c.toks,enc c.texts,enc c.regs, .own 61 x.2.2.1, .v (.slice none 0 0), .v (.slice none 0 0)]),(61, .row x.2.2.1 oP 4 (x.2.2.2.map enc))]) (λx=>x.2.1.toNat) (0,k, .slice none 0 0, []) [1,61] (λ_=>rfl) (by decide) (by decide) ?_ ?_ ?_ ?_
 ·simp[Ta];omega
 ·simp
 ·simp[isNilRow];exact .nilown 61
 ·rintro⟨at_,k,v,l⟩ ⟨q1,q2,q3,q4,q5⟩;simp only at q1 q2 q3 q4 q5;simp[h1,I3,lw,oR];have rv:Wn Uu b (H5 c) (D.tup []) (aj (aj (aj (λx=>none) 96 none) 61 (some (Res.row v oP 4 (List.map enc l)))) 1 (some (Res.box b [D.list 2 (List.map enc c.attrs),D.list 1 (List.map enc c.toks),D.list 4 (List.map enc c.texts),D.list 4 (List.map enc c.regs),D.own 61 v,D.v (Value.slice none 0 0),D.v (Value.slice none 0 0)]))):=by
   refine⟨{ c with nodes:=l },_,rfl,rfl,?_,⟨l,rfl,by omega,q5⟩⟩;simp[Uu];exact jD oP rfl
  refine⟨λhk=>⟨λhat y hy0 hy1=>⟨by simp only[InR];omega,λ_=>rv,λhb=>⟨by simp only[InR];omega,by simp only[InR];omega,by omega,λy1 hy1'=>⟨by simp only[InR];omega,λ_ z hz0 hz1=>⟨hz0,hz1,λlb hlb=>⟨by omega,by omega,λv1=>?_⟩⟩⟩⟩⟩,λ_=>rv⟩,λ_=>rv⟩;have hb0:0<=at_+y:=by omega
  generalize at_+y=b' at*;have he:b'+1+y1<=c.toks.length/\0<=y1:=by omega
  generalize hee:b'+1+y1=e' at*;have ok1:Ta c.toks.length (l++ [⟨lb,b',e', -1⟩]):=by
   refine⟨λx hx=>?_,λj x hx=>?_⟩
   ·rcases qjM.1 hx with hx|hx
    ·exact q5.1 x hx
    ·simp at hx;subst hx;simp only;omega
   ·by_cases e:j < l.length
    ·rw[qjQ e]at hx;exact q5.2 j x hx
    ·rw[qjK (by omega)]at hx;have hx:=qjD hx;simp at hx;subst hx;simp only;omega
  refine cm (X:=Value×List qB) [0,1,4,6,8] [] (λx=>x.2.length<=l.length+2/\Ta c.toks.length x.2) (λ_=>[]) (λx=>[(1, .box b [enc c.attrs,enc c.toks,enc c.texts,enc c.regs, .own 61 x.1, .v (.slice none 0 0), .v (.slice none 0 0)]),(61, .row x.1 oP 4 (x.2.map enc))]) ?_ ?_
  ·simp[h1,I3,lw,oR];refineλu hu0 hu1=>⟨λ_=>⟨by simp only[InR];omega,by omega,λy2 hy2=>⟨by simp only[InR];omega,λz2 hz20 hz21=>⟨hz20,hz21,λlb2 _=>⟨by simp only[InR];omega,by simp only[InR];omega,by omega,λy3 hy3=>⟨by simp only[InR];omega,by omega,by omega,λv2=>⟨v2,l++ [⟨lb,b',e', -1⟩] ++ [⟨lb2,b'+y2,b'+y2+1+y3,l.length⟩],⟨by simp,?_⟩, .inl rfl, .inl ⟨rfl,by simp⟩⟩⟩⟩⟩⟩⟩,λ_=>⟨v1,l++ [⟨lb,b',e', -1⟩],⟨by simp,ok1⟩, .inl rfl, .inl ⟨rfl,by simp⟩⟩⟩
   refine⟨λx hx=>?_,λj x hx=>?_⟩
   ·rcases qjM.1 hx with hx|hx
    ·exact ok1.1 x hx
    ·simp at hx;subst hx;simp only;omega
   ·by_cases e:j < (l++ [(⟨lb,b',e', -1⟩:qB)]).length
    ·rw[qjQ e]at hx;exact ok1.2 j x hx
    ·rw[qjK (by omega)]at hx;have hx:=qjD hx;simp at hx;subst hx;simp at e;simp only;omega
  ·rintro⟨v2,l2⟩ ⟨r1,r2⟩;simp only at r1 r2;simp;exact⟨by simp only[InR];omega,e',k -1,v2,l2,⟨by omega,by omega,by omega,by omega,r2⟩,⟨⟨rfl,rfl⟩, .inl (.inl rfl), .inl (.inl rfl)⟩,by omega⟩
end Go.Gv
namespace Go.Gv
def PE{σ:Sg}{H:aa}(t id:Nat)(x:Value)(el n:Nat)(es:List D)(h1:σ t= .own id x)(h2:H id=some (.row x el n es)):Wk σ H (upd σ t (.sub id x n 0 es.length)) H:=by
 intro E a w ⟨hd,hN,tp,hw,hr⟩;refine⟨hd,hN,tp,hw,λs=>?_⟩;unfold upd;split
 ·rename_i e;subst e;have h3:=hr s;rw[h1]at h3;have e1:a.tmps.getD s undef=x:=by
   generalize a.tmps.getD s undef=y at h3;cases h3;rfl
  obtain⟨xs,⟨_,h4⟩,_⟩:=hw.sat.ok id _ h2;rw[e1];rcases h4 with⟨rfl,h5⟩|⟨g,cap,cur,rfl,_,_,h6,h7,_⟩
  ·rw[h5];exact .subnil id n
  ·exact .sub id g es.length cap n 0 es.length _ (qj5 _) (qjL _) h6 h7 (λ_=>by simp)
 ·exact hr s
open Cod (enc dec) in
def qbi{X:Type}[Cod X]{H:aa}{id n hi:Nat}{v:Value}{l:List X}(el:Nat)(h:H id=some (.row v el n (l.map enc)))(hh:hi=l.length)(hn:n=Cod.wd X:=by rfl):FrzTo H (.sub id v n 0 hi) (.list n (l.map enc)):=by
 subst hh;have e:((l.map (enc (X:=X))).take l.length).drop 0=l.map enc:=by
  rw[List.drop_zero,qk2 (by simp)]
 refine .sub h (by rw[e]) (λd hd=>?_) (λk c c' h1 h2=>?_)
 ·obtain⟨x,_,rfl⟩:=qjN.1 hd;exact⟨Cod.kn x,(Cod.wid x).trans hn.symm⟩
 ·rw[e,h2]at h1;cases h1;exact .same _
open Cod (enc dec)
variable {S S0:Nat->Spc}
def Vx(n:Nat)(hs:List Int)(rs:List B):Prop:=hs.length=n/\rs.length=n/\∀h∈hs,h<=n
def NU(c c':Corpus):Prop:=∃hs rs,c'={ c with heads:=hs,rels:=rs } /\hs.length<=c.toks.length/\rs.length<=c.toks.length/\∀h∈hs,h<=c.toks.length
theorem N7(h1:S cL=s_m_Next):H4 mw lX S Uu qbb uH NU:=by
 intro L b c hc;have hc:c.toks.length<=4096:=hc;simp[mw,lX,h1,Uu];intro _;refine uw (X:=Int×List Int) [0,1,4] [1] [] [27] [] [] (λx=>0<=x.1/\x.1<=c.toks.length/\(x.2.length:Int)=x.1/\∀y∈x.2,0<=y/\y < c.toks.length) (λx=>[(5,enc x.2),(6,enc x.1)]) (λx=>[]) (λx=>c.toks.length -x.1.toNat) (0, []) [] (λ_=>rfl) (by decide) (by decide) ?_ ?_ ?_ ?_
 ·simp
 ·simp
 ·simp
 ·rintro⟨i,l⟩ ⟨q1,q2,q3,q4⟩;simp only at q1 q2 q3 q4;simp[h1];refine⟨λhi=>⟨by simp only[InR];omega,by omega,λy hy=>?_⟩,λhi=>?_⟩
  ·have e:List.take y.toNat (List.map enc l) ++D.v (.int .i64 i)::List.drop y.toNat (List.map enc l)=(l.take y.toNat++i::l.drop y.toNat).map enc:=by simp
   refine⟨by omega,by omega,by omega,by omega,by omega,by omega,by omega,by omega,by omega,by omega,λv=>⟨by simp only[InR];omega,i+1,l.take y.toNat++i::l.drop y.toNat,⟨by omega,by omega,?_,λz hz=>?_⟩,⟨?_,rfl⟩,by omega⟩⟩
   ·simp;omega
   ·rcases qjM.1 hz with hz|hz
    ·exact q4 z (qjX hz)
    ·rcases qjW.1 hz with hz|hz
     ·omega
     ·exact q4 z (qkh hz)
   ·rw[e];exact jD hU (by simp[L3])
  ·have hil:l.length=c.toks.length:=by omega
   refine⟨by omega,by omega,λv8=>⟨by omega,by omega,λv9=>?_⟩⟩;refine cm (X:=Bool×List Int×List B) [1] [1] (λx=>Vx c.toks.length x.2.1 x.2.2) (λx=>[(8, .sub 40 v8 1 0 c.toks.length),(9, .sub 42 v9 1 0 c.toks.length),(10,enc x.1)]) (λx=>[(40, .row v8 hU 1 (x.2.1.map enc)),(42, .row v9 aJ 1 (x.2.2.map enc))]) ?_ ?_
   ·simp[-Bool.exists_bool];intro _;refine ES ((PE 8 40 v8 hU 1 _ rfl rfl).trans (PE 9 42 v9 aJ 1 _ rfl rfl)) ?_;simp only[ZI];refine am (X:=Bool×List Int×List B) [0,1,5,8,9,43] [1] l.length (λ_ x=>Vx c.toks.length x.2.1 x.2.2) (λx=>[(10,enc x.1)]) (λx=>[(40, .row v8 hU 1 (x.2.1.map enc)),(42, .row v9 aJ 1 (x.2.2.map enc))]) (false,List.replicate c.toks.length 0,List.replicate c.toks.length ⟨#[]⟩) (by simp) (by simp) (by omega) (by simp) (by simp) (by simp[Vx]) (by simp) (by simp) ?_ ?_
    ·rintro k ⟨sm,hs,rs⟩ hk ⟨p1,p2,p3⟩;simp only at p1 p2 p3;obtain⟨x,hx⟩:=eM hk;obtain⟨_,hgx⟩:=qjA.1 hx;have hxr:=q4 x (fF hx);simp[hk,hx,hgx, -Bool.exists_bool];refine⟨by omega,by omega,by omega,λa ha=>?_⟩;have e1:(List.map enc hs).set x.toNat (D.v (Value.int .i64 (-1)))=(hs.set x.toNat (-1)).map enc:=fU hs _ _;rw[e1];have p1':(hs.set x.toNat (-1)).length=c.toks.length:=by simp[p1]
     have p3':∀h∈hs.set x.toNat (-1),h<=c.toks.length:=λh hh=>by
      rcases qkp hh with hh|hh
      ·exact p3 h hh
      ·omega
     generalize hs.set x.toNat (-1)=hs1 at p1' p3' ⊢;clear p1 p3 ha e1;refine cm (X:=List Int×List B) [0,1,5,8,9,10,12,43,44,45] [1] (λx=>Vx c.toks.length x.1 x.2) (λ_=>[]) (λx=>[(40, .row v8 hU 1 (x.1.map enc)),(42, .row v9 aJ 1 (x.2.map enc))]) ?_ ?_
     ·simp[h1,P6,lw,oR, -Bool.exists_bool];have hlx:∀ (y:Int),hs1.length=c.toks.length->∃z,hs1[x.toNat]? =some z:=λ_ _=>eM (by omega)
      refine⟨λhk0 y _ _=>⟨λ_=>⟨by omega,λy2 hy2=>⟨by omega,by omega,λa ha y3 hy30 hy31=>⟨hy30,hy31,λs _=>⟨by omega,by omega,by omega,λz _=>⟨by omega,by omega,by omega,λz2 _=>⟨hs1.set x.toNat a,rs.set x.toNat s,⟨by simp[p1'],by simp[p2],λh hh=>?_⟩, .inl (fU hs1 _ _), .inl (fU rs _ _)⟩⟩⟩⟩⟩⟩,λ_=>⟨hs1,rs,⟨p1',p2,p3'⟩, .inl rfl, .inl rfl⟩⟩,λ_=>⟨hs1,rs,⟨p1',p2,p3'⟩, .inl rfl, .inl rfl⟩⟩;rcases qkp hh with hh|hh
      ·exact p3' h hh
      ·have:=q4 a (fF ha);omega
     ·rintro⟨hs2,rs2⟩ ⟨r1,r2,r3⟩;simp only at r1 r2 r3;simp[-Bool.exists_bool];refine⟨λ_=>⟨by omega,by omega,by omega,λa _=>⟨λ_=>⟨by omega,by omega,by omega,λa2 _=>⟨!decide (a2=⟨#[]⟩),hs2,rs2,⟨r1,r2,r3⟩,by simp, .inl rfl, .inl rfl⟩⟩,λ_=>⟨true,hs2,rs2,⟨r1,r2,r3⟩,by simp, .inl rfl, .inl rfl⟩⟩⟩,λ_=>⟨true,hs2,rs2,⟨r1,r2,r3⟩,by simp, .inl rfl, .inl rfl⟩⟩
    ·rintro⟨sm,hs,rs⟩ ⟨p1,p2,p3⟩;simp only at p1 p2 p3;simp[-Bool.exists_bool];exact⟨sm,hs,rs,⟨p1,p2,p3⟩,rfl, .inl rfl, .inl rfl⟩
   ·rintro⟨sm,hs,rs⟩ ⟨p1,p2,p3⟩;simp only at p1 p2 p3;simp;refine⟨λ_=>⟨{ c with heads:=hs,rels:=rs },_,rfl,rfl,?_,⟨hs,rs,rfl,by omega,by omega,p3⟩⟩,λ_=>⟨{ c with heads:=[],rels:=[] },_,rfl,rfl,?_,⟨[], [],rfl,by simp,by simp,by simp⟩⟩⟩
    ·simp[qbb];exact⟨qbi hU rfl p1.symm,qbi aJ rfl p2.symm⟩
    ·simp[qbb]
abbrev s_m_word:Spc:=aZ (a1 Int) (λn=>0<=n/\n < 6) (enc (X:=B)) λ_ y=>y∈um
def PK:ax As zV S (a1 Int) (λn=>0<=n/\n < 6) (enc (X:=B)) λ_ y=>y∈um:=by
 rintro n hn;have hn:0<=n/\n < 6:=hn;simp[As,zV];refine⟨hn.1,hn.2,?_⟩;have:n=0\/n=1\/n=2\/n=3\/n=4\/n=5:=by omega
 rcases this with rfl|rfl|rfl|rfl|rfl|rfl <;> simp[um]
abbrev s_m_tag:Spc:=aZ (a1 Int) (λn=>0<=n/\n < 2) (enc (X:=B)) λ_ y=>y∈DT
def To:ax DG CJ S (a1 Int) (λn=>0<=n/\n < 2) (enc (X:=B)) λ_ y=>y∈DT:=by
 rintro n hn;have hn:0<=n/\n < 2:=hn;simp[DG,CJ];refine⟨hn.1,hn.2,?_⟩;have:n=0\/n=1:=by omega
 rcases this with rfl|rfl <;> simp[DT]
abbrev s_m_features:Spc:=aZ (a1 Int) (λn=>0<=n/\n < 4) (enc (X:=B)) λ_ y=>y∈FsetL
def Ge:ax pV pz S (a1 Int) (λn=>0<=n/\n < 4) (enc (X:=B)) λ_ y=>y∈FsetL:=by
 rintro n hn;have hn:0<=n/\n < 4:=hn;simp[pV,pz];refine⟨hn.1,hn.2,?_⟩;have:n=0\/n=1\/n=2\/n=3:=by omega
 rcases this with rfl|rfl|rfl|rfl <;> simp[FsetL]
abbrev s_m_Type:Spc:=aZ (a1 Int) bk (enc (X:=B)) lr
def PL(h1:S ph=s_m_Mod):ax qu qj S (a1 Int) bk (enc (X:=B)) lr:=by
 rintro n -;simp[qu,qj,h1];have h3:=C9 n 3 (by omega);refine⟨h3.1,h3.2,?_⟩;have:Ag n 3=0\/Ag n 3=1\/Ag n 3=2:=by omega
 rcases this with h|h|h <;> simp[h]
abbrev s_m_Attributes:Spc:=aZ a0 bk (enc (X:=List Attr)) (λ_ l=>Wm l)
def Cf:ax my lY S a0 bk (enc (X:=List Attr)) (λ_ l=>Wm l):=by
 rintro x -;simp[my,lY];exact dm (Y:=List Attr) [⟨⟨#[119,111,114,100]⟩,false⟩,⟨⟨#[116,97,103]⟩,false⟩,⟨⟨#[102,101,97,116]⟩,true⟩] (by simp) rfl
end Go.Gv
