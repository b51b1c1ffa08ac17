/- W13 -/
import Derived.Test.YtnffegdacbdhmaaGreatDoorGd15
set_option linter.all false
set_option maxRecDepth 100000
open Bool renaming forall_bool → fB', exists_bool → eB'
namespace Go.Gv
open Cod (enc dec)
variable {S S0:Nat->Spc}
def qf8{a b c:Corpus}(ha:Pi a)(hb:Pi b)(h:c.attrs=a.attrs/\c.toks=a.toks++b.toks):Pi c:=by
 refine⟨h.1.trans ha.1,λr hr=>?_⟩;rw[h.2]at hr;rcases qz5.1 hr with hr|hr
 ·exact ha.2 r hr
 ·exact hb.2 r hr
abbrev s_m_Document:Spc:=aL (aT (a2 B Int)) (λx=>1<=x.2.2/\x.2.2<=1000) (enc (X:=Corpus)) (λx c=>Xx c/\Pi c/\(c.toks.length:Int)<=x.2.2)
abbrev s_m_Corpus:Spc:=aL (aT (a1 Int)) (λx=>1<=x.2/\x.2<=1000) (enc (X:=Corpus)) (λx c=>Xx c/\Pi c/\(c.toks.length:Int)<=3*x.2)
theorem X2(h1:S bP=s_m_Next)(h2:S pk=s_m_Document)(h3:S zJ=s_r06_Concat):am qT qp S (aT (a1 Int)) (λx=>1<=x.2/\x.2<=1000) (enc (X:=Corpus)) (λx c=>Xx c/\Pi c/\(c.toks.length:Int)<=3*x.2):=by
 rintro⟨L,n⟩ hn;have hn:1<=n/\n<=1000:=hn;simp[qT,qp,h1,h2,hn];intro b y hy hyk hyl b1 k hk0 hk1;refine ay (X:=Int×Corpus) [0,1,4,5] [4] (λx=>0<=x.1/\x.1<=2/\Xx x.2/\Pi x.2/\(x.2.toks.length:Int) +x.1*n<=3*n) (λx=>[(6,enc x.1)]) (λx=>[(5, .box b1 (enc x.2).cells)]) (λx=>x.1.toNat) (k,y) ⟨hk0,by omega,hy,hyk,by
  have:k=0\/k=1\/k=2:=by omega
  show(y.toks.length:Int) +k*n<=3*n;rcases this with rfl|rfl|rfl<;>omega⟩ ?_
 rintro⟨k,c⟩ ⟨q1,q2,q3,q4,q5⟩;simp only at q1 q2 q3 q4 q5;simp[h1,h2,h3,hn];refine⟨λhk=>⟨by omega,by omega,?_⟩,λhk=>?_⟩
 ·have:k=1\/k=2:=by omega
  rcases this with rfl|rfl
  all_goals
   simp[hn];refineλy hy hyk hyl=>⟨⟨q3,hy⟩,λa e he=>⟨λh0=>⟨by simp[InR],_,a,⟨?_,?_,(he h0).1,qf8 q4 hyk (he h0).2,by
    have e:=(he h0).2.2;simp only at e;rw[e,qAm];omega⟩,⟨rfl, .inl ⟨rfl,rfl,rfl,rfl,rfl,rfl,rfl⟩⟩,?_⟩,λh0=>⟨by simp[InR],_,c,⟨?_,?_,q3,q4,by omega⟩,⟨rfl, .inl ⟨rfl,rfl,rfl,rfl,rfl,rfl,rfl⟩⟩,?_⟩⟩⟩
   all_goals omega
 ·have:k=0:=by omega
  subst this;exact ba c (by simp) ⟨q3,q4,by show(c.toks.length:Int)<=3*n;omega⟩
end Go.Gv
namespace Go.Gv
def RFz(Hf:ab):Res->Res->Prop
 | .box b cs, .box b' cs'=>b=b'/\cs.length=cs'.length/\∀(m:Nat) (c c':D),cs[m]? =some c->cs'[m]? =some c'->FrzTo Hf c c'
 | .row x el n es, .row x' el' n' es'=>x=x'/\el=el'/\n=n'/\es.length=es'.length/\(∀d∈es',d.kn=true/\d.cells.length=n)/\∀(m:Nat) (c c':D),es[m]? =some c->es'[m]? =some c'->∀(j:Nat) (e e':D),c.cells[j]? =some e->c'.cells[j]? =some e'->FrzTo Hf e e'
 | .tbox el b cs, .tbox el' b' cs'=>el=el'/\b=b'/\cs.length=cs'.length/\∀(m:Nat) (c c':D),cs[m]? =some c->cs'[m]? =some c'->FrzTo Hf c c'
 | .mrow x es, .mrow x' es'=>x=x'/\es.length=es'.length/\∀(m:Nat) (c c':D),es[m]? =some c->es'[m]? =some c'->FrzTo Hf c c'
 |r,r'=>r=r'
def RFz.blk{Hf:ab}{r r':Res}(h:RFz Hf r r'):r'.blk=r.blk:=by
 cases r<;>cases r'<;>simp only[RFz]at h
 ·obtain⟨rfl,_⟩:=h;rfl
 all_goals first
  |(obtain⟨rfl,rfl,rfl,_⟩:=h;rfl)
  |(obtain⟨rfl,rfl,_⟩:=h;rfl)
  |(obtain⟨rfl,_⟩:=h;rfl)
  |(cases h;done)
  |(cases h;rfl)
theorem RFz.ok{tp I I':Nat->Prop}{w:World}{Hf:ab}{r r':Res}(h:RFz Hf r r')(hr:ResOk (R tp I w) w r)(hok:∀i q,Hf i=some q->ResOk (R tp I w) w q)(hI:∀b,I b->I' b)(hb:∀i q b,Hf i=some q->q.blk=some b->I' b):ResOk (R tp I' w) w r':=by
 have fz:∀{c c':D} {y:Value},FrzTo Hf c c'->R tp I w y c->R tp I' w y c':=λh hr=>h.R (H:=cY) hok hI hb hr
 have same:ResOk (R tp I' w) w r:=hr.conv (λx d hr=>hr.mono (λ_ h=>h) (λb hb=>⟨hI b hb,rfl⟩) (λb _=> .refl _ _)) (λ_ _=>rfl);cases r with
 | box b cs=>
   cases r' with
   | box b' cs'=>
     obtain⟨rfl,hl,hc⟩:=h;obtain⟨xs,el,h1,h2,h3⟩:=hr;refine⟨xs,el,h1,h2.trans hl,λk y c hy hc'=>?_⟩;have hk:k<cs.length:=by rw[hl];exact(qzV.1 hc').1
     have h4:=h3 k y cs[k] hy (qzX hk);exact⟨h4.1,fz (hc k _ _ (qzX hk) hc') h4.2⟩
   |row x el n es=>cases h
   |iter b s p=>cases h
   |tbox b s p=>cases h
   |mrow=>cases h
   |miter=>cases h
   |raw=>cases h
 | iter b s p=>
   cases r' with
   |box b' cs'=>cases h
   |row x el n es=>cases h
   |iter b' s' p'=>cases h;exact same
   |tbox b' s' p'=>cases h
   |mrow=>cases h
   |miter=>cases h
   |raw=>cases h
 | tbox b s p=>
   cases r' with
   |box b' cs'=>cases h
   |row x el n es=>cases h
   |iter b' s' p'=>cases h
   |mrow=>cases h
   |miter=>cases h
   |raw=>cases h
   | tbox b' s' cs'=>
     obtain⟨rfl,rfl,hl,hc⟩:=h;obtain⟨xs,h1,h2,h3⟩:=hr;refine⟨xs,h1,h2.trans hl,λk y c hy hc'=>?_⟩;have hk:k<p.length:=by rw[hl];exact(qzV.1 hc').1
     have h4:=h3 k y p[k] hy (qzX hk);exact⟨h4.1,fz (hc k _ _ (qzX hk) hc') h4.2⟩
 | row x el n es=>
   cases r' with
   |box b' cs'=>cases h
   |iter b' s' p'=>cases h
   |tbox b' s' p'=>cases h
   |mrow=>cases h
   |miter=>cases h
   |raw=>cases h
   | row x' el' n' es'=>
     obtain⟨rfl,rfl,rfl,hl,hkn,hc⟩:=h;obtain⟨xs,h1,h2,h3⟩:=hr;refine⟨xs,hl ▸h1,hkn,λk y c hy hc'=>?_⟩;have hw:∀d∈es,d.cells.length=n:=λd hd=>(h2 d hd).2
     have hw':∀d∈es',d.cells.length=n:=λd hd=>(hkn d hd).2
     have hfl:=aY hw;have hfl':=aY hw';have hk:k<(be es).length:=by
      have:=(qzV.1 hc').1;rw[hfl,hl,<-hfl'];exact this
     have hk2:k<es.length*n:=by rw[<-hfl];exact hk
     have hn:0<n:=by
      rcases qA4 n with e|e
      ·subst e;simp at hk2
      ·exact e
     have h4:=h3 k y (be es)[k] hy (qzX hk);refine⟨h4.1,fz ?_ h4.2⟩;have hdm:k=(k/n) *n+k % n:=by have:=qBH k n;rw[qBo]at this;omega
     have hmod:k % n<n:=qBG _ hn;have g1:=hU hw (i:=k/n) (j:=k % n) hmod;have g2:=hU hw' (i:=k/n) (j:=k % n) hmod;rw[<-hdm]at g1 g2;rw[hc']at g2;rw[qzX hk]at g1;cases e1:es[k/n]? with
     |none=>rw[e1]at g1;cases g1
     | some c1=>
       cases e2:es'[k/n]? with
       |none=>rw[e2]at g2;cases g2
       | some c2=>
         rw[e1]at g1;rw[e2]at g2;exact hc _ c1 c2 e1 e2 _ _ _ g1.symm g2.symm
 | mrow x es=>
   cases r' with
   |box=>cases h
   |iter=>cases h
   |tbox=>cases h
   |row=>cases h
   |miter=>cases h
   |raw=>cases h
   | mrow x' es'=>
     obtain⟨rfl,hl,hc⟩:=h;obtain⟨b,ents,clock,rfl,h1,h2,h3⟩:=hr;refine⟨b,ents,clock,rfl,h1,h2,h3.1.trans hl,λk e c he hc'=>?_⟩;have hk:k<es.length:=by rw[hl];exact(qzV.1 hc').1
     exact fz (hc k _ _ (qzX hk) hc') (h3.2 k e _ he (qzX hk))
 | miter b c l=>
   cases r' with
   |box=>cases h
   |iter=>cases h
   |tbox=>cases h
   |row=>cases h
   |mrow=>cases h
   |raw=>cases h
   |miter=>cases h;exact same
 | raw k=>
   cases r' with
   |box=>cases h
   |iter=>cases h
   |tbox=>cases h
   |row=>cases h
   |mrow=>cases h
   |miter=>cases h
   |raw k'=>cases h;exact same
def RFe(Hf:ab)(r r':Res):Prop:=r=r'\/RFz Hf r r'
def RFe.blk{Hf:ab}{r r':Res}(h:RFe Hf r r'):r'.blk=r.blk:=by
 rcases h with rfl|h
 ·rfl
 ·exact h.blk
def RFe.ok{tp I I':Nat->Prop}{w:World}{Hf:ab}{r r':Res}(h:RFe Hf r r')(hr:ResOk (R tp I w) w r)(hok:∀i q,Hf i=some q->ResOk (R tp I w) w q)(hI:∀b,I b->I' b)(hb:∀i q b,Hf i=some q->q.blk=some b->I' b):ResOk (R tp I' w) w r':=by
 rcases h with rfl|h
 ·exact hr.conv (λx d hr=>hr.mono (λ_ h=>h) (λb hb=>⟨hI b hb,rfl⟩) (λb _=> .refl _ _)) (λ_ _=>rfl)
 ·exact h.ok hr hok hI hb
def isNilRow.blk'{r:Res}(h:isNilRow r):r.blk=none:=by
 cases r with
 |box b c=>exact h.elim
 |iter b s p=>exact h.elim
 |tbox b s p=>exact h.elim
 |mrow=>exact h.elim
 |miter=>exact h.elim
 |raw=>exact h.elim
 |row x el n es=>obtain⟨rfl,rfl⟩:=h;rfl
theorem XM{σ σ':Sg}{H H' Hf:ab}(ρ:Nat->Nat)(h1:∀t,FrzTo Hf (σ t) (σ' t))(h2:∀i r,H' i=some r->(∃r0,H (ρ i)=some r0/\RFe Hf r0 r)\/isNilRow r)
 (h3:∀i j r s,H' i=some r->H' j=some s->ρ i=ρ j->i=j\/isNilRow r\/isNilRow s) (h4:∀i r,Hf i=some r->H i=some r/\∀j r',H' j=some r'->ρ j=i->isNilRow r'):Wk σ H σ' H':=by
 intro E a w ⟨hd,hN,tp,h,hr⟩;have hblk:∀i r c,H' i=some r->r.blk=some c->∃r0,H (ρ i)=some r0/\r0.blk=some c/\ ¬isNilRow r:=λi r c k1 k2=>by
  have hn:¬isNilRow r:=λhn=>by rw[hn.blk']at k2;cases k2
  rcases h2 i r k1 with⟨r0,k3,k4⟩|k3
  ·exact⟨r0,k3,k4.blk ▸k2,hn⟩
  ·exact absurd k3 hn
 have hown:∀c,bL H' c->bL H c:=λc ⟨i,r,k1,k2⟩=>by
  obtain⟨r0,k3,k4,_⟩:=hblk i r c k1 k2;exact⟨ρ i,r0,k3,k4⟩
 have himm:∀c,bh E.O tp H w c->bh E.O tp H' w c:=λc hb=>⟨hb.1,hb.2.1,hb.2.2.1,λho=>hb.2.2.2 (hown c ho)⟩
 have hfok:∀i q,Hf i=some q->ResOk (R tp (bh E.O tp H w) w) w q:=λi q hq=>h.sat.ok i q (h4 i q hq).1
 have hfb:∀i q b,Hf i=some q->q.blk=some b->bh E.O tp H' w b:=λi q b hq hb=>by
  obtain⟨k1,k2⟩:=h4 i q hq;have ho:=h.sat.out i q b k1 hb;refine⟨(h.sat.ok i q k1).lt hb,ho.1,ho.2,λ⟨j,s,k3,k4⟩=>?_⟩;obtain⟨s0,k5,k6,k7⟩:=hblk j s b k3 k4;exact k7 (k2 j s k3 (h.sat.dis (ρ j) i s0 q b k5 k1 k6 hb))
 have move:∀x d,R tp (bh E.O tp H w) w x d->R tp (bh E.O tp H' w) w x d:=λx d hr=>
  hr.mono (λ_ h=>h) (λb hb=>⟨himm b hb,rfl⟩) (λb _=> .refl _ _)
 refine⟨hd,hN,tp,⟨h.hO,h.tpx,h.tpn,h.tpl,h.step,λb hb=>h.loc b (hown b hb),⟨λi j r s c k1 k2 k3 k4=>?_,λi r c k1 k2=>?_,λi r k1=>?_⟩⟩,λt=>(h1 t).R (H:=cY) hfok himm hfb (hr t)⟩
 ·obtain⟨r0,a1,a2,a3⟩:=hblk i r c k1 k3;obtain⟨s0,b1,b2,b3⟩:=hblk j s c k2 k4;rcases h3 i j r s k1 k2 (h.sat.dis _ _ r0 s0 c a1 b1 a2 b2)with e|e|e
  ·exact e
  ·exact absurd e a3
  ·exact absurd e b3
 ·obtain⟨r0,a1,a2,_⟩:=hblk i r c k1 k2;exact h.sat.out _ r0 c a1 a2
 ·rcases h2 i r k1 with⟨r0,k3,k4⟩|k3
  ·exact k4.ok (h.sat.ok _ r0 k3) hfok himm hfb
  ·cases r with
   |box b c=>exact k3.elim
   |iter b s p=>exact k3.elim
   |tbox b s p=>exact k3.elim
   |mrow=>exact k3.elim
   |miter=>exact k3.elim
   |raw=>exact k3.elim
   | row x el n es=>
     obtain⟨rfl,rfl⟩:=k3;exact⟨[],qBw _ _ _ _,by simp,λk y c h=>by simp at h⟩
def Cq(Hf:ab):List (Nat×D)->Sg->Prop
 | [],_=>True
 |(t,d)::l,σ=>FrzTo Hf (σ t) d/\Cq Hf l σ
@[simp] theorem qpJ(Hf:ab)(σ:Sg):Cq Hf [] σ=True:=i' rfl
@[simp] theorem qpK(Hf:ab)(t:Nat)(d:D)(l:List (Nat×D))(σ:Sg):Cq Hf ((t,d)::l) σ=(FrzTo Hf (σ t) d/\Cq Hf l σ):=i' rfl
def qdk(rn:List (Nat×Nat))(i:Nat):Nat:=(rn.lookup i).getD i
def Aj(Hf:ab)(rn:List (Nat×Nat)):List (Nat×Res)->ab->Prop
 | [],_=>True
 |(i,r)::l,H=>((∃r0,H (qdk rn i)=some r0/\RFe Hf r0 r)\/isNilRow r)/\Aj Hf rn l H
@[simp] theorem qpH(Hf:ab)(rn:List (Nat×Nat))(H:ab):Aj Hf rn [] H=True:=i' rfl
@[simp] theorem qpI(Hf:ab)(rn:List (Nat×Nat))(i:Nat)(r:Res)(l:List (Nat×Res))(H:ab):Aj Hf rn ((i,r)::l) H=(((∃r0,H (qdk rn i)=some r0/\RFe Hf r0 r)\/isNilRow r)/\Aj Hf rn l H):=i' rfl
def Qg(gv:List Nat)(H:ab):ab:=λi=>if i∈gv then H i else none
def qoM(rn:List (Nat×Nat))(ids gv:List Nat):Prop:=(∀i∈ids,∀j∈ids,qdk rn i=qdk rn j->i=j)/\(∀i∈ids,qdk rn i∉gv)
instance (rn:List (Nat×Nat)) (ids gv:List Nat):Decidable (qoM rn ids gv):=by unfold qoM;infer_instance
def dN{l:List (Nat×Res)}{H:ab}{i:Nat}{r:Res}(h:gK l H i=some r):(i,r) ∈l\/(i∉l.map (·.1)/\H i=some r):=by
 induction l with
 |nil=>exact .inr ⟨by simp,h⟩
 | cons p l ih=>
   obtain⟨j,q⟩:=p;simp only[gK,ai]at h;split at h
   ·rename_i e;subst e;cases h;exact .inl (by simp)
   ·rename_i e;rcases ih h with h|⟨h1,h2⟩
    ·exact .inl (by simp[h])
    ·exact .inr ⟨by simp[e,h1],h2⟩
def YW{Hf:ab}{rn:List (Nat×Nat)}{l:List (Nat×Res)}{H:ab}{i:Nat}{r:Res}(h:Aj Hf rn l H)(hm:(i,r) ∈l):(∃r0,H (qdk rn i)=some r0/\RFe Hf r0 r)\/isNilRow r:=by
 induction l with
 |nil=>simp at hm
 | cons p l ih=>
   obtain⟨j,q⟩:=p;rcases qAc.1 hm with e|hm
   ·cases e;exact h.1
   ·exact ih h.2 hm
theorem Hp{σ0 σ:Sg}{H0 H:ab}{ks hk gv:List Nat}{rn:List (Nat×Nat)}{sl:List (Nat×D)}{hp:List (Nat×Res)}(hi:qoM rn (hp.map (·.1) ++hk) gv)(hid:∀i∈hk,i∉hp.map (·.1)->qdk rn i=i)
 (h1:Cq (Qg gv H) sl σ) (h2:yr ks σ0 σ) (h3:Aj (Qg gv H) rn hp H) (h4:Cr hk H0 H):Wk σ H (rW sl (ix ks σ0)) (gK hp (jm hk H0)):=by
 have hmem:∀i r,gK hp (jm hk H0) i=some r->i∈hp.map (·.1) ++hk:=λi r h=>by
  rcases dN h with h|⟨_,h⟩
  ·exact qz5.2 (.inl (qz1.2 ⟨_,h,rfl⟩))
  ·rw[M3]at h;split at h
   ·rename_i e;exact qz5.2 (.inr e)
   ·cases h
 refine XM (Hf:=Qg gv H) (qdk rn) (λt=>?_) (λi r h=>?_) (λi j r s k1 k2 e=> .inl (hi.1 i (hmem i r k1) j (hmem j s k2) e)) (λi r h=>?_)
 ·clear hi hid h3 hmem
  induction sl with
  | nil=>
    rw[Zy,M2];split
    ·rename_i h;rw[<-h2 t h];exact .same _
    ·exact .any _
  | cons p sl ih=>
    obtain⟨s,d⟩:=p;simp only[rW,upd];split
    ·rename_i e;subst e;exact h1.1
    ·exact ih h1.2
 ·rcases dN h with h|⟨h5,h⟩
  ·exact YW h3 h
  ·rw[M3]at h;split at h
   ·rename_i e;rw[hid i e h5,h4 i e];exact .inl ⟨r,h, .inl rfl⟩
   ·cases h
 ·simp only[Qg]at h;split at h
  ·rename_i e;exact⟨h,λj r' k1 k2=>absurd e (k2 ▸hi.2 j (hmem j r' k1))⟩
  ·cases h
@[simp] theorem qx8(i:Nat):qdk [] i=i:=i' rfl
def FzL(Hf:ab):List D->List D->Prop
 | [], []=>True
 |a::l,b::r=>FrzTo Hf a b/\FzL Hf l r
 | _,_=>False
@[simp] theorem qyy(Hf:ab):FzL Hf [] []=True:=i' rfl
@[simp] theorem qyz(Hf:ab)(a b:D)(l r:List D):FzL Hf (a::l) (b::r)=(FrzTo Hf a b/\FzL Hf l r):=i' rfl
def FzL.get{Hf:ab} :∀{l r:List D},FzL Hf l r->l.length=r.length/\∀(m:Nat) (c c':D),l[m]? =some c->r[m]? =some c'->FrzTo Hf c c'
 | [], [],_=>⟨rfl,λm c c' h=>by simp at h⟩
 | a::l,b::r,h=>by
   obtain⟨h1,h2⟩:=h;have ih:=FzL.get h2;refine⟨by simp[ih.1],λm c c' e1 e2=>?_⟩;cases m with
   |zero=>simp at e1 e2;subst e1;subst e2;exact h1
   |succ m=>simp at e1 e2;exact ih.2 m c c' e1 e2
@[simp] theorem qr8(Hf:ab)(b:Nat)(cs cs':List D):RFe Hf (.box b cs) (.box b cs')=(cs=cs'\/FzL Hf cs cs'):=by
 refine propext ⟨λh=>?_,λh=>?_⟩
 ·rcases h with h|⟨_,hl,hc⟩
  ·cases h;exact .inl rfl
  ·right
   induction cs generalizing cs' with
   | nil=>cases cs' with
     |nil=>trivial
     |cons b r=>simp at hl
   | cons a l ih=>cases cs' with
     |nil=>simp at hl
     |cons b r=>exact⟨hc 0 a b rfl rfl,ih r (by simpa using hl) λm c c' h1 h2=>hc (m+1) c c' (by simpa using h1) (by simpa using h2)⟩
 ·rcases h with rfl|h
  ·exact .inl rfl
  ·exact .inr ⟨rfl,h.get.1,h.get.2⟩
def qhP(σ0:Sg)(H0:ab)(ks hk gv:List Nat)(rn:List (Nat×Nat))(sl:List (Nat×D))(hp:List (Nat×Res))(σ:Sg)(H:ab):Prop:=Cq (Qg gv H) sl σ/\yr ks σ0 σ/\Aj (Qg gv H) rn hp H/\Cr hk H0 H
@[simp] theorem qq1(σ0:Sg)(H0:ab)(ks hk gv:List Nat)(rn:List (Nat×Nat))(sl:List (Nat×D))(hp:List (Nat×Res))(σ:Sg)(H:ab):qhP σ0 H0 ks hk gv rn sl hp σ H=(Cq (Qg gv H) sl σ/\yr ks σ0 σ/\Aj (Qg gv H) rn hp H/\Cr hk H0 H):=i' rfl
section
variable {S:Nat->Spc}{σ:Sg}{H:ab}{K:Ex->Sg->ab->Prop}
def iB{X:Type}(ks hk gv:List Nat)(rn:List (Nat×Nat))(P:X->Prop)(sl:X->List (Nat×D))(hp:X->List (Nat×Res)){k:Nat}{a b:CC}(ids:List Nat)(hids:∀x,(hp x).map (·.1)=ids)(hi:qoM rn (ids++hk) gv/\∀i∈hk,i∉ids->qdk rn i=i)
 (ha:vc S a (qfw (λσ' H'=>∃x,P x/\qhP σ H ks hk gv rn (sl x) (hp x) σ' H') K) σ H)
 (hb:∀x,P x->vc S b K (rW (sl x) (ix ks σ)) (gK (hp x) (jm hk H))):vc S (Ke k a b) K σ H:=by
 refine qiq P _ _ (yx a _ _ (λe σ' H' h=>?_) ha) hb;cases e with
 | norm=>
   obtain⟨x,h1,h2⟩:=h;exact⟨x,h1,Hp (by rw[hids x];exact hi.1) (by rw[hids x];exact hi.2) h2.1 h2.2.1 h2.2.2.1 h2.2.2.2⟩
 |ex i=>exact h
 |ret=>exact h
end
open Cod (enc dec)
variable {S S0:Nat->Spc}
end Go.Gv
namespace Go.Gv
variable {dq:Prop}
section
variable {X Y:Type}
def qlj(cf:Y->List D)(b:Nat)(post:Y->Prop)(r:D)(H:ab):Prop:=∃y cs,r= .tup []/\H 1=some (.box b cs)/\FzL (qjH 1 [] H) cs (cf y)/\post y
def Tm(cc:CC)(rs:List ak)(S:Nat->Spc)(ce:X->List D)(cf:Y->List D)(pre:X->Prop)(post:X->Y->Prop):Prop:=
 ∀L b x,pre x->vc S cc (vN rs λr H'=>qlj cf b (post x) r H') (dC [.tape L, .bptr 1 b 0]) (ai cY 1 (some (.box b (ce x))))
variable {P:Program}{S:Nat->Spc}{f:Nat}{im:List Nat}{cc:CC}{rs:List ak}{N:Nat}
theorem Jg{ce:X->List D}{cf:Y->List D}{pre:X->Prop}{post:X->Y->Prop}(hS:∀f,Tri dq P f (S f).pt)(h:Ak P f im cc rs N)(hN:2<=N)(hw:Tm cc rs S ce cf pre post):Tri dq P f (qua ce cf pre post).pt:=by
 obtain⟨wQ,enter,fn,code,h1,h2,h3,h4,h5⟩:=h;refine Yl hS wQ h1 h2 enter h3 h4 h5 ?_;rintro ds H d K ⟨L,id,b,x,rfl,hid,hp,hK⟩;refine⟨hN, [.tape L, .bptr 1 b 0],ai cY 1 (some (.box b (ce x))),λ_=>id, .cons (.same _) (.cons (.bptr _ _ _ _) .nil),λi r h=>?_,λi j r s h h' _=>?_,_,hw L b x hp,?_⟩
 ·by_cases e:i=1
  ·subst e;simp only[ai,if_true]at h;cases h;exact hid
  ·simp[ai,e,cY]at h
 ·have a:i=1:=by
   by_cases e:i=1
   ·exact e
   ·simp[ai,e,cY]at h
  have b:j=1:=by
   by_cases e:j=1
   ·exact e
   ·simp[ai,e,cY]at h'
  exact a.trans b.symm
 ·rintro r H' ⟨y,cs,rfl,hj,hz,hpost⟩;have hW:=qjA (H:=H') 1 b cs (cf y) [] hj hz.get.1 hz.get.2;have hj:left 1 b (cf y) [] H' 1=some (.box b (cf y)):=rfl;refine⟨.tup [],left 1 b (cf y) [] H',cY,ai H id (some (.box b (cf y))),λi=>if i=id then some 1 else none,hW, .same _,λj q h=>by simp[cY]at h,hK y hpost,λi s hi=>?_,λi j' k s q hi hj' e1 e2=>?_⟩
  ·by_cases e:i=id
   ·subst e;simp only[ai,if_true]at hi;cases hi;simpa using hj
   ·simp only[ai,e,if_false]at hi ⊢;exact⟨hi,λk q h he=>e he.symm⟩
  ·have a:i=id:=by
    by_cases e:i=id
    ·exact e
    ·simp[e]at e1
   have b:j'=id:=by
    by_cases e:j'=id
    ·exact e
    ·simp[e]at e2
   exact a.trans b.symm
end
end Go.Gv
namespace Go.Gv
open Cod (enc dec)
variable {S S0:Nat->Spc}
def qh8:qhu NF Me S:=by
 intro l;simp[NF,Me, -List.map_take,A9,FD];omega
def qsq(c:Corpus):List D:=[enc c.attrs,enc c.toks,enc c.texts,enc c.regs, .v (.slice none 0 0), .v (.slice none 0 0), .v (.slice none 0 0)]
def qjc(c:Corpus):List D:=[enc c.attrs,enc c.toks,enc c.texts,enc c.regs,enc c.nodes, .v (.slice none 0 0), .v (.slice none 0 0)]
def qp3(c:Corpus):List D:=[enc c.attrs,enc c.toks,enc c.texts,enc c.regs,enc c.nodes,enc c.heads,enc c.rels]
end Go.Gv
namespace Go.Gv
section
variable {S:Nat->Spc}{σ:Sg}{H:ab}{K:Ex->Sg->ab->Prop}
theorem tN{X:Type}(ks hk gv0 gv:List Nat)(qdl rn:List (Nat×Nat))(P:X->Prop)(sl:X->List (Nat×D))(hp:X->List (Nat×Res))(m:X->Nat)(x0:X)(ids:List Nat)(hids:∀x,(hp x).map (·.1)=ids)
 (hi0:qoM qdl (ids++hk) gv0/\∀i∈hk,i∉ids->qdk qdl i=i) (hi:qoM rn (ids++hk) gv/\∀i∈hk,i∉ids->qdk rn i=i) {k:Nat} {b:CC} (h0:P x0)
 (hs:Cq (Qg gv0 H) (sl x0) σ) (hh:Aj (Qg gv0 H) qdl (hp x0) H)
 (hr:∀x,P x->vc S b (qbw P (λy=>qhP σ H ks hk gv rn (sl y) (hp y)) m x K) (rW (sl x) (ix ks σ)) (gK (hp x) (jm hk H))):vc S (.loop k b) K σ H:=by
 rw[SV];refine⟨⟨X,P,λx=>rW (sl x) (ix ks σ),λx=>gK (hp x) (jm hk H),m⟩,⟨x0,h0,Hp (by rw[hids x0];exact hi0.1) (by rw[hids x0];exact hi0.2) hs (λ_ _=>rfl) hh (λ_ _=>rfl)⟩,λx hx=>yx b _ _ (λe σ' H' h=>?_) (hr x hx)⟩;cases e with
 | norm=>
   obtain⟨y,h1,h2,h3⟩:=h;exact⟨y,h1,Hp (by rw[hids y];exact hi.1) (by rw[hids y];exact hi.2) h2.1 h2.2.1 h2.2.2.1 h2.2.2.2,h3⟩
 |ex i=>exact h
 |ret=>exact h
end
open Cod (enc dec)
variable {S S0:Nat->Spc}
def UH(l:List B):List D:=l.map enc
def Pt(a b:B):D.list 1 [.v (.string a), .v (.string b)]= .list 1 (UH [a,b]):=i' rfl
def UG(a b c:B):D.list 1 [.v (.string a), .v (.string b), .v (.string c)]= .list 1 (UH [a,b,c]):=i' rfl
def mF(l:List B):(UH l).length=l.length:=by simp[UH]
def rc(l:List B)(i:Nat)(d:D):((UH l)[i]? =some d)=∃s,l[i]? =some s/\ .v (.string s)=d:=by
 simp[UH]
def qhM(n:Nat)(ns:List yq):Prop:=(∀x∈ns,0<=x.b/\x.b<=n/\0<=x.e/\x.e<=n)/\∀(j:Nat) (y:yq),ns[j]? =some y->y.par<j
def To(c c':Corpus):Prop:=∃ns,c'={ c with nodes:=ns } /\ns.length<=6/\qhM c.toks.length ns
def CP(c:Corpus):Prop:=c.toks.length<=4096
theorem qby(h1:S bP=s_m_Next):Tm sT sr S qsq qjc CP To:=by
 intro L b c hc;have hc:c.toks.length<=4096:=hc;simp[sT,sr,h1,qsq];intro _ k hk0 hk1;refine tN (X:=Int×Int×Value×List yq) [0,1,4] [] [] [] [] [] (λx=>0<=x.1/\x.1<=c.toks.length/\0<=x.2.1/\2*x.2.1+x.2.2.2.length<=6/\qhM c.toks.length x.2.2.2) (λx=>[(5,enc x.1),(6,enc x.2.1)]) (λx=>[(1, .box b [enc c.attrs,enc c.toks,enc c.texts,enc c.regs, .own 61 x.2.2.1, .v (.slice none 0 0), .v (.slice none 0 0)]),(61, .row x.2.2.1 vU 4 (x.2.2.2.map enc))]) (λx=>x.2.1.toNat) (0,k, .slice none 0 0, []) [1,61] (λ_=>rfl) (by decide) (by decide) ?_ ?_ ?_ ?_
 ·simp[qhM];omega
 ·simp
 ·simp[isNilRow];exact .nilown 61
 ·rintro⟨at_,k,v,l⟩ ⟨q1,q2,q3,q4,q5⟩;simp only at q1 q2 q3 q4 q5;simp[h1,Pt,mF,rc];have sC:qlj qjc b (To c) (D.tup []) (ai (ai (ai (λx=>none) 96 none) 61 (some (Res.row v vU 4 (List.map enc l)))) 1 (some (Res.box b [D.list 2 (List.map enc c.attrs),D.list 1 (List.map enc c.toks),D.list 4 (List.map enc c.texts),D.list 4 (List.map enc c.regs),D.own 61 v,D.v (Value.slice none 0 0),D.v (Value.slice none 0 0)]))):=by
   refine⟨{ c with nodes:=l },_,rfl,rfl,?_,⟨l,rfl,by omega,q5⟩⟩;simp[qjc];exact fG vU rfl
  refine⟨λhk=>⟨λhat y hy0 hy1=>⟨by simp only[InR];omega,λ_=>sC,λhb=>⟨by simp only[InR];omega,by simp only[InR];omega,by omega,λy1 hy1'=>⟨by simp only[InR];omega,λ_ z hz0 hz1=>⟨hz0,hz1,λlb hlb=>⟨by omega,by omega,λv1=>?_⟩⟩⟩⟩⟩,λ_=>sC⟩,λ_=>sC⟩;have hb0:0<=at_+y:=by omega
  generalize at_+y=b' at*;have he:b'+1+y1<=c.toks.length/\0<=y1:=by omega
  generalize hee:b'+1+y1=e' at*;have ok1:qhM c.toks.length (l++ [⟨lb,b',e', -1⟩]):=by
   refine⟨λx hx=>?_,λj x hx=>?_⟩
   ·rcases qz5.1 hx with hx|hx
    ·exact q5.1 x hx
    ·simp at hx;subst hx;simp only;omega
   ·by_cases e:j<l.length
    ·rw[qAe e]at hx;exact q5.2 j x hx
    ·rw[qz9 (by omega)]at hx;have hx:=qzY hx;simp at hx;subst hx;simp only;omega
  refine bj (X:=Value×List yq) [0,1,4,6,8] [] (λx=>x.2.length<=l.length+2/\qhM c.toks.length x.2) (λ_=>[]) (λx=>[(1, .box b [enc c.attrs,enc c.toks,enc c.texts,enc c.regs, .own 61 x.1, .v (.slice none 0 0), .v (.slice none 0 0)]),(61, .row x.1 vU 4 (x.2.map enc))]) ?_ ?_
  ·simp[h1,Pt,mF,rc];refineλu hu0 hu1=>⟨λ_=>⟨by simp only[InR];omega,by omega,λy2 hy2=>⟨by simp only[InR];omega,λz2 hz20 hz21=>⟨hz20,hz21,λlb2 _=>⟨by simp only[InR];omega,by simp only[InR];omega,by omega,λy3 hy3=>⟨by simp only[InR];omega,by omega,by omega,λv2=>⟨v2,l++ [⟨lb,b',e', -1⟩] ++ [⟨lb2,b'+y2,b'+y2+1+y3,l.length⟩],⟨by simp,?_⟩, .inl rfl, .inl ⟨rfl,by simp⟩⟩⟩⟩⟩⟩⟩,λ_=>⟨v1,l++ [⟨lb,b',e', -1⟩],⟨by simp,ok1⟩, .inl rfl, .inl ⟨rfl,by simp⟩⟩⟩
   refine⟨λx hx=>?_,λj x hx=>?_⟩
   ·rcases qz5.1 hx with hx|hx
    ·exact ok1.1 x hx
    ·simp at hx;subst hx;simp only;omega
   ·by_cases e:j<(l++ [(⟨lb,b',e', -1⟩:yq)]).length
    ·rw[qAe e]at hx;exact ok1.2 j x hx
    ·rw[qz9 (by omega)]at hx;have hx:=qzY hx;simp at hx;subst hx;simp at e;simp only;omega
  ·rintro⟨v2,l2⟩ ⟨r1,r2⟩;simp only at r1 r2;simp;exact⟨by simp only[InR];omega,e',k -1,v2,l2,⟨by omega,by omega,by omega,by omega,r2⟩,⟨⟨rfl,rfl⟩, .inl (.inl rfl), .inl (.inl rfl)⟩,by omega⟩
end Go.Gv
namespace Go.Gv
def qdr{σ:Sg}{H:ab}(t id:Nat)(x:Value)(el n:Nat)(es:List D)(h1:σ t= .own id x)(h2:H id=some (.row x el n es)):Wk σ H (upd σ t (.sub id x n 0 es.length)) H:=by
 intro E a w ⟨hd,hN,tp,hw,hr⟩;refine⟨hd,hN,tp,hw,λs=>?_⟩;unfold upd;split
 ·rename_i e;subst e;have h3:=hr s;rw[h1]at h3;have e1:a.tmps.getD s undef=x:=by
   generalize a.tmps.getD s undef=y at h3;cases h3;rfl
  obtain⟨xs,⟨_,h4⟩,_⟩:=hw.sat.ok id _ h2;rw[e1];rcases h4 with⟨rfl,h5⟩|⟨g,cap,cur,rfl,_,_,h6,h7,_⟩
  ·rw[h5];exact .subnil id n
  ·exact .sub id g es.length cap n 0 es.length _ (qAr _) (qz2 _) h6 h7 (λ_=>by simp)
 ·exact hr s
open Cod (enc dec) in
def qqa{X:Type}[Cod X]{H:ab}{id n hi:Nat}{v:Value}{l:List X}(el:Nat)(h:H id=some (.row v el n (l.map enc)))(hh:hi=l.length)(hn:n=Cod.wd X:=by rfl):FrzTo H (.sub id v n 0 hi) (.list n (l.map enc)):=by
 subst hh;have e:((l.map (enc (X:=X))).take l.length).drop 0=l.map enc:=by
  rw[List.drop_zero,qAT (by simp)]
 refine .sub h (by rw[e]) (λd hd=>?_) (λk c c' h1 h2=>?_)
 ·obtain⟨x,_,rfl⟩:=qz1.1 hd;exact⟨Cod.kn x,(Cod.wid x).trans hn.symm⟩
 ·rw[e,h2]at h1;cases h1;exact .same _
open Cod (enc dec)
variable {S S0:Nat->Spc}
def qkv(n:Nat)(hs:List Int)(rs:List B):Prop:=hs.length=n/\rs.length=n/\∀h∈hs,h<=n
def qbj(c c':Corpus):Prop:=∃hs rs,c'={ c with heads:=hs,rels:=rs } /\hs.length<=c.toks.length/\rs.length<=c.toks.length/\∀h∈hs,h<=c.toks.length
theorem qbz(h1:S bP=s_m_Next):Tm sV sv S qjc qp3 CP qbj:=by
 intro L b c hc;have hc:c.toks.length<=4096:=hc;simp[sV,sv,h1,qjc];intro _;refine tN (X:=Int×List Int) [0,1,4] [1] [] [27] [] [] (λx=>0<=x.1/\x.1<=c.toks.length/\(x.2.length:Int)=x.1/\∀y∈x.2,0<=y/\y<c.toks.length) (λx=>[(5,enc x.2),(6,enc x.1)]) (λx=>[]) (λx=>c.toks.length -x.1.toNat) (0, []) [] (λ_=>rfl) (by decide) (by decide) ?_ ?_ ?_ ?_
 ·simp
 ·simp
 ·simp
 ·rintro⟨i,l⟩ ⟨q1,q2,q3,q4⟩;simp only at q1 q2 q3 q4;simp[h1];refine⟨λhi=>⟨by simp only[InR];omega,by omega,λy hy=>?_⟩,λhi=>?_⟩
  ·have e:List.take y.toNat (List.map enc l) ++D.v (.int .i64 i)::List.drop y.toNat (List.map enc l)=(l.take y.toNat++i::l.drop y.toNat).map enc:=by simp
   refine⟨by omega,by omega,by omega,by omega,by omega,by omega,by omega,by omega,by omega,by omega,λv=>⟨by simp only[InR];omega,i+1,l.take y.toNat++i::l.drop y.toNat,⟨by omega,by omega,?_,λz hz=>?_⟩,⟨?_,rfl⟩,by omega⟩⟩
   ·simp;omega
   ·rcases qz5.1 hz with hz|hz
    ·exact q4 z (qAl hz)
    ·rcases qAc.1 hz with hz|hz
     ·omega
     ·exact q4 z (qAP hz)
   ·rw[e];exact fG bb (by simp[Qg])
  ·have hil:l.length=c.toks.length:=by omega
   refine⟨by omega,by omega,λv8=>⟨by omega,by omega,λv9=>?_⟩⟩;refine bj (X:=Bool×List Int×List B) [1] [1] (λx=>qkv c.toks.length x.2.1 x.2.2) (λx=>[(8, .sub 40 v8 1 0 c.toks.length),(9, .sub 42 v9 1 0 c.toks.length),(10,enc x.1)]) (λx=>[(40, .row v8 bb 1 (x.2.1.map enc)),(42, .row v9 av 1 (x.2.2.map enc))]) ?_ ?_
   ·simp[-eB'];intro _;refine HK ((qdr 8 40 v8 bb 1 _ rfl rfl).trans (qdr 9 42 v9 av 1 _ rfl rfl)) ?_;simp only[qoY];refine ah (X:=Bool×List Int×List B) [0,1,5,8,9,43] [1] l.length (λ_ x=>qkv c.toks.length x.2.1 x.2.2) (λx=>[(10,enc x.1)]) (λx=>[(40, .row v8 bb 1 (x.2.1.map enc)),(42, .row v9 av 1 (x.2.2.map enc))]) (false,List.replicate c.toks.length 0,List.replicate c.toks.length ⟨#[]⟩) (by simp[qkv]) ?_ ?_
    ·rintro k ⟨sm,hs,rs⟩ hk ⟨p1,p2,p3⟩;simp only at p1 p2 p3;obtain⟨x,hx⟩:=aQ hk;obtain⟨_,hgx⟩:=qzV.1 hx;have hxr:=q4 x (aP hx);simp[hk,hx,hgx,-eB'];refine⟨by omega,by omega,by omega,λa ha=>?_⟩;have e1:(List.map enc hs).set x.toNat (D.v (Value.int .i64 (-1)))=(hs.set x.toNat (-1)).map enc:=jZ hs _ _;rw[e1];have p1':(hs.set x.toNat (-1)).length=c.toks.length:=by simp[p1]
     have p3':∀h∈hs.set x.toNat (-1),h<=c.toks.length:=λh hh=>by
      rcases qA0 hh with hh|hh
      ·exact p3 h hh
      ·omega
     generalize hs.set x.toNat (-1)=hs1 at p1' p3' ⊢;clear p1 p3 ha e1;refine bj (X:=List Int×List B) [0,1,5,8,9,10,12,43,44,45] [1] (λx=>qkv c.toks.length x.1 x.2) (λ_=>[]) (λx=>[(40, .row v8 bb 1 (x.1.map enc)),(42, .row v9 av 1 (x.2.map enc))]) ?_ ?_
     ·simp[h1,UG,mF,rc,-eB'];have hlx:∀(y:Int),hs1.length=c.toks.length->∃z,hs1[x.toNat]? =some z:=λ_ _=>aQ (by omega)
      refine⟨λhk0 y _ _=>⟨λ_=>⟨by omega,λy2 hy2=>⟨by omega,by omega,λa ha y3 hy30 hy31=>⟨hy30,hy31,λs _=>⟨by omega,by omega,by omega,λz _=>⟨by omega,by omega,by omega,λz2 _=>⟨hs1.set x.toNat a,rs.set x.toNat s,⟨by simp[p1'],by simp[p2],λh hh=>?_⟩, .inl (jZ hs1 _ _), .inl (jZ rs _ _)⟩⟩⟩⟩⟩⟩,λ_=>⟨hs1,rs,⟨p1',p2,p3'⟩, .inl rfl, .inl rfl⟩⟩,λ_=>⟨hs1,rs,⟨p1',p2,p3'⟩, .inl rfl, .inl rfl⟩⟩;rcases qA0 hh with hh|hh
      ·exact p3' h hh
      ·have:=q4 a (aP ha);omega
     ·rintro⟨hs2,rs2⟩ ⟨r1,r2,r3⟩;simp only at r1 r2 r3;simp[-eB'];refine⟨λ_=>⟨by omega,by omega,by omega,λa _=>⟨λ_=>⟨by omega,by omega,by omega,λa2 _=>⟨!decide (a2=⟨#[]⟩),hs2,rs2,⟨r1,r2,r3⟩,by simp, .inl rfl, .inl rfl⟩⟩,λ_=>⟨true,hs2,rs2,⟨r1,r2,r3⟩,by simp, .inl rfl, .inl rfl⟩⟩⟩,λ_=>⟨true,hs2,rs2,⟨r1,r2,r3⟩,by simp, .inl rfl, .inl rfl⟩⟩
    ·rintro⟨sm,hs,rs⟩ ⟨p1,p2,p3⟩;simp only at p1 p2 p3;simp[-eB'];exact⟨sm,hs,rs,⟨p1,p2,p3⟩,rfl, .inl rfl, .inl rfl⟩
   ·rintro⟨sm,hs,rs⟩ ⟨p1,p2,p3⟩;simp only at p1 p2 p3;simp;refine⟨λ_=>⟨{ c with heads:=hs,rels:=rs },_,rfl,rfl,?_,⟨hs,rs,rfl,by omega,by omega,p3⟩⟩,λ_=>⟨{ c with heads:=[],rels:=[] },_,rfl,rfl,?_,⟨[], [],rfl,by simp,by simp,by simp⟩⟩⟩
    ·simp[qp3];exact⟨qqa bb rfl p1.symm,qqa av rfl p2.symm⟩
    ·simp[qp3]
abbrev s_m_word:Spc:=aL (a1 Int) (λn=>0<=n/\n< 6) (enc (X:=B)) λ_ y=>y∈Xv
def qdx:am IR HW S (a1 Int) (λn=>0<=n/\n< 6) (enc (X:=B)) λ_ y=>y∈Xv:=by
 rintro n hn;have hn:0<=n/\n< 6:=hn;simp[IR,HW];refine⟨hn.1,hn.2,?_⟩;have:n=0\/n=1\/n=2\/n=3\/n=4\/n=5:=by omega
 rcases this with rfl|rfl|rfl|rfl|rfl|rfl<;>simp[Xv]
abbrev s_m_tag:Spc:=aL (a1 Int) (λn=>0<=n/\n< 2) (enc (X:=B)) λ_ y=>y∈qhw
def qh7:am NE Md S (a1 Int) (λn=>0<=n/\n< 2) (enc (X:=B)) λ_ y=>y∈qhw:=by
 rintro n hn;have hn:0<=n/\n< 2:=hn;simp[NE,Md];refine⟨hn.1,hn.2,?_⟩;have:n=0\/n=1:=by omega
 rcases this with rfl|rfl<;>simp[qhw]
abbrev s_m_features:Spc:=aL (a1 Int) (λn=>0<=n/\n< 4) (enc (X:=B)) λ_ y=>y∈QD
def Q2:am xq wJ S (a1 Int) (λn=>0<=n/\n< 4) (enc (X:=B)) λ_ y=>y∈QD:=by
 rintro n hn;have hn:0<=n/\n< 4:=hn;simp[xq,wJ];refine⟨hn.1,hn.2,?_⟩;have:n=0\/n=1\/n=2\/n=3:=by omega
 rcases this with rfl|rfl|rfl|rfl<;>simp[QD]
abbrev s_m_Type:Spc:=aL (a1 Int) bW (enc (X:=B)) rB
def qdy(h1:S wg=s_m_Mod):am yi xT S (a1 Int) bW (enc (X:=B)) rB:=by
 rintro n -;simp[yi,xT,h1];have h3:=MP n 3 (by omega);refine⟨h3.1,h3.2,?_⟩;have:In n 3=0\/In n 3=1\/In n 3=2:=by omega
 rcases this with h|h|h<;>simp[h]
abbrev s_m_Attributes:Spc:=aL a0 bW (enc (X:=List Attr)) (λ_ l=>qli l)
def Ls:am sX sx S a0 bW (enc (X:=List Attr)) (λ_ l=>qli l):=by
 rintro x -;simp[sX,sx];exact ba (Y:=List Attr) [⟨⟨#[119,111,114,100]⟩,false⟩,⟨⟨#[116,97,103]⟩,false⟩,⟨⟨#[102,101,97,116]⟩,true⟩] (by simp) rfl
abbrev s_m_nodes:Spc:=qua qsq qjc CP To
abbrev s_m_heads:Spc:=qua qjc qp3 CP qbj
def qgb{H:ab}{id el n:Nat}{v:Value}{d d':D}(h:H id=some (.row v el n [d]))(hd:FrzTo H d d')(hk:d'.kn=true/\d'.cells.length=n):FrzTo H (.own id v) (.list n [d']):=by
 refine .row h rfl (λe he=>?_) (λk c c' h1 h2=>?_)
 ·simp at he;subst he;exact hk
 ·cases k with
  |zero=>simp at h1 h2;subst h1;subst h2;exact hd
  |succ k=>simp at h1
def qfO(l:List Int):List D:=l.map enc
def qpX(a b c d e f g h:Int):D.list 1 [.v (.int .i64 a), .v (.int .i64 b), .v (.int .i64 c), .v (.int .i64 d), .v (.int .i64 e), .v (.int .i64 f), .v (.int .i64 g), .v (.int .i64 h)]= .list 1 (qfO [a,b,c,d,e,f,g,h]):=i' rfl
def qfN(l:List Int):(qfO l).length=l.length:=by simp[qfO]
def qjv(l:List Int)(i:Nat)(d:D):((qfO l)[i]? =some d)=∃s,l[i]? =some s/\ .v (.int .i64 s)=d:=by
 simp[qfO]
def qdP{l:List (List B)}{r:List B}(h:∀x∈l,He x)(hr:He r):∀x∈l++ [r],He x:=λx hx=>by
 rcases qz5.1 hx with hx|hx
 ·exact h x hx
 ·rw[qA9]at hx;rw[hx];exact hr
theorem Q4(h1:S bP=s_m_Next)(h2:S uW=s_m_Attributes)(h3:S Nf=s_m_word)(h4:S SM=s_m_tag)(h5:S zL=s_m_features)
 (h6:S rP=s_m_Type) (h7:S pd=s_r06_SortRegions) (h8:S uT=s_m_nodes) (h9:S uU=s_m_heads):
 am nA nf S (aT (a2 B Int)) (λx=>1<=x.2.2/\x.2.2<=1000) (enc (X:=Corpus)) (λx c=>Xx c/\Pi c/\(c.toks.length:Int)<=x.2.2):=by
 rintro⟨L,name,most⟩ hm;have hm:1<=most/\most<=1000:=hm;simp[nA,nf,h1,h2];refineλb6=>⟨by omega,λy hy=>⟨by simp only[InR];omega,trivial,λat_ hat v26 b8=>?_⟩⟩
 have hal:at_.length=3:=by rw[show at_=gJ from hat];rfl
 obtain⟨n,hn0,hn⟩:∃n:Nat,1+y=(n:Int)/\1<=n/\n<=1000:=⟨(1+y).toNat,by omega,by omega⟩
 rw[hn0];refine iB (X:=Ai) [0,6,7,8] [6] [26] [] (λt=>t.b=0/\t.e=n) (λ_=>[]) (λt=>[(8, .box b8 [enc at_, .v (.slice none 0 0),enc [t], .v (.slice none 0 0), .v (.slice none 0 0), .v (.slice none 0 0), .v (.slice none 0 0)])]) [8] (λ_=>rfl) (by decide) ?_ ?_
 ·simp[h1,UG,mF,rc];refineλz _ _=>⟨λ_ u hu0 hu1=>⟨hu0,hu1,λs _=>⟨⟨name,0,n, [⟨⟨#[121,101,97,114]⟩,s⟩]⟩,⟨rfl,rfl⟩, .inl (qgb (el:=Cu) (by simp[Qg]) (.same _) ⟨rfl,rfl⟩)⟩⟩,λ_=>⟨⟨name,0,n, []⟩,⟨rfl,rfl⟩, .inl (qgb (el:=Cu) (by simp[Qg];rfl) ?_ ⟨rfl,rfl⟩)⟩⟩
  rw[eB,eB,eB,eB];exact⟨.same _, .same _, .same _, .nil _, .same _⟩
 ·rintro t ⟨ht1,ht2⟩;refine iB (X:=List (List B)) [0,6,7,8] [6] [66] [] (λl=>l.length=n/\∀r∈l,He r) (λ_=>[]) (λl=>[(8, .box b8 [enc at_,enc l,enc [t], .v (.slice none 0 0), .v (.slice none 0 0), .v (.slice none 0 0), .v (.slice none 0 0)])]) [8] (λ_=>rfl) (by decide) ?_ ?_
  ·simp[h1];refine tN (X:=Int×Value×List (List B)) [0,6,7,8] [6] [] [] [] [] (λx=>0<=x.1/\x.1<=n/\(x.2.2.length:Int)=x.1/\∀r∈x.2.2,He r) (λx=>[(9,enc x.1)]) (λx=>[(8, .box b8 [enc at_, .own 66 x.2.1,enc [t], .v (.slice none 0 0), .v (.slice none 0 0), .v (.slice none 0 0), .v (.slice none 0 0)]),(66, .row x.2.1 vV 1 (x.2.2.map enc))]) (λx=>n -x.1.toNat) (0, .slice none 0 0, []) [8,66] (λ_=>rfl) (by decide) (by decide) ?_ ?_ ?_ ?_
   ·simp
   ·simp
   ·simp[isNilRow];exact .nilown 66
   ·rintro⟨i,v,l⟩ ⟨q1,q2,q3,q4⟩;simp only at q1 q2 q3 q4;simp[h1,h3,h4,h5,qpX,qfN,qjv];refine⟨λhi y hy0 hy1=>?_,λhi=>⟨l,⟨by omega,q4⟩, .inl (fG vV (by simp[Qg]))⟩⟩;have a1:y.tmod 8=y % 8:=Int.tmod_eq_emod_of_nonneg hy0;have a2:y.tdiv 8=y/8:=Int.tdiv_eq_ediv_of_nonneg hy0;have a3:(y/8).tmod 2=(y/8) % 2:=Int.tmod_eq_emod_of_nonneg (by omega);have a4:y.tdiv 12=y/12:=Int.tdiv_eq_ediv_of_nonneg hy0;rw[a1,a2,a3,a4];refine⟨by omega,by omega,λs hs=>⟨?_,λw1 hw1=>⟨by simp only[InR];omega,by omega,λw2 hw2=>⟨by simp only[InR];omega,by omega,λw3 hw3=>⟨by omega,by omega,λv2=>⟨by simp only[InR];omega,i+1,v2,l++ [[w1,w2,w3]],⟨by omega,by omega,by simp;omega,qdP q4 ⟨w1,w2,w3,hw1,hw2,hw3,rfl⟩⟩,⟨rfl, .inl (.inl rfl), .inl (.inl (by simp))⟩,by omega⟩⟩⟩⟩⟩⟩;have:=qzY hs;simp at this;omega
  ·rintro toks ⟨htk,hto⟩;refine iB (X:=List Region) [0,6,7,8] [6,8] [165] [] (λl=>l.length<=8/\∀r∈l,0<=r.b/\r.b<=n/\0<=r.e/\r.e<=n) (λl=>[(11,enc l)]) (λ_=>[]) [] (λ_=>rfl) (by decide) ?_ ?_
   ·simp[h1];intro k hk0 hk1;refine tN (X:=Int×Value×List Region) [0,6,7,8] [6,8] [] [] [] [] (λx=>0<=x.1/\x.1+x.2.2.length<=4/\∀r∈x.2.2,0<=r.b/\r.b<=n/\0<=r.e/\r.e<=n) (λx=>[(11, .own 165 x.2.1),(12,enc x.1)]) (λx=>[(165, .row x.2.1 nF 4 (x.2.2.map enc))]) (λx=>x.1.toNat) (k, .slice none 0 0, []) [165] (λ_=>rfl) (by decide) (by decide) ?_ ?_ ?_ ?_
    ·simp;omega
    ·simp;exact .nilown 165
    ·simp[isNilRow]
    ·rintro⟨k,v,l⟩ ⟨q1,q2,q3⟩;simp only at q1 q2 q3;simp[h1,h6];refine⟨λhk=>⟨by omega,λu hu z _ _=>⟨trivial,λty=>⟨by simp only[InR];omega,by simp only[InR];omega,by omega,λw hw=>⟨by simp only[InR];omega,λb14=>?_⟩⟩⟩⟩,λhk=>⟨l,⟨by omega,q3⟩,fG nF (by simp[Qg])⟩⟩;have hr:0<=u/\u<=n/\0<=u+1+w/\u+1+w<=n:=by omega
     generalize u+1+w=e' at*;refine iB (X:=List Pair) [0,6,7,8,11,12,14] [6,8,165] [] [] (λ_=>True) (λ_=>[]) (λkv=>[(14, .box b14 [.v (.string ty), .v (.int .i64 u), .v (.int .i64 e'),enc kv])]) [14] (λ_=>rfl) (by decide) ?_ ?_
     ·simp[h1,Pt,mF,rc];exactλ_ _ _ _ q hq0 hq1=>⟨hq0,hq1,λs _=>⟨[⟨⟨#[110]⟩,s⟩], .inl (.inl rfl)⟩⟩
     ·rintro kv -;simp only[qmH,qjp];simp;refine bj (X:=Bool) [0,6,7,8,11,12,14] [6,8,14,165] (λ_=>True) (λx=>[(15,enc x)]) (λ_=>[]) ?_ ?_
      ·simp[-eB'];intro _;refine ah (X:=Bool) [0,6,7,8,11,12,14,101] [6,8,14,165] l.length (λ_ _=>True) (λx=>[(15,enc x)]) (λ_=>[]) false trivial ?_ ?_
       ·rintro j cr hj -;obtain⟨x,hx⟩:=aQ hj;obtain⟨_,hgx⟩:=qzV.1 hx;simp[hj,hx,hgx,-eB'];exactλ_ _ _ _=>⟨λ_ _ _=>⟨_,(Bool.not_not _).symm⟩,λ_ _=>⟨_,(Bool.not_not _).symm⟩⟩
       ·rintro cr -;simp[-eB']
      ·rintro cr -;simp[-eB'];refine⟨λ_=>⟨by omega,by omega,λv2=>⟨by simp only[InR];omega,k -1,v2,l++ [⟨ty,u,e',kv⟩],⟨by omega,by simp;omega,λr hrr=>?_⟩,⟨⟨.same _,rfl⟩, .inl (.inl (by simp))⟩,by omega⟩⟩,λ_=>⟨by simp only[InR];omega,k -1,v,l,⟨by omega,by omega,q3⟩,⟨⟨.same _,rfl⟩, .inl (.inl rfl)⟩,by omega⟩⟩;rcases qz5.1 hrr with hrr|hrr
       ·exact q3 r hrr
       ·simp at hrr;subst hrr;exact hr
   ·rintro rg ⟨hr1,hr2⟩;simp[h7,h8];refine⟨by simp only[ZG];omega,λrs ⟨hs1,hs2⟩=>⟨⟨at_,toks, [t],rs, [], [], []⟩,by simp[qsq],by simp only[CP];omega,λc hc=>?_⟩⟩;obtain⟨ns,rfl,hns,hnd⟩:=hc;simp only at hnd;simp[qjc];refine iB (X:=List Int×List B) [6,8] [6] [] [] (λx=>x.1.length<=n/\x.2.length<=n/\∀h∈x.1,h<=n) (λ_=>[]) (λx=>[(8, .box b8 [enc at_,enc toks,enc [t],enc rs,enc ns,enc x.1,enc x.2])]) [8] (λ_=>rfl) (by decide) ?_ ?_
    ·simp[h1,h9];refineλz _ _=>⟨λ_=>⟨⟨at_,toks, [t],rs,ns, [], []⟩,by simp[qjc],by simp only[CP];omega,λc hc=>?_⟩,λ_=>⟨[], [],⟨by simp,by simp,by simp⟩, .inl ⟨rfl,rfl⟩⟩⟩
     obtain⟨hs,rl,rfl,g1,g2,g3⟩:=hc;simp only at g1 g2 g3;simp[qp3];exact⟨hs,rl,⟨by omega,by omega,λh hh=>by have:=g3 h hh;omega⟩, .inl (.inl ⟨rfl,rfl⟩)⟩
    ·rintro⟨hs,rl⟩ ⟨p1,p2,p3⟩;simp only at p1 p2 p3;simp;refine ba ⟨at_,toks, [t],rs,ns,hs,rl⟩ (.same _) ⟨?_,⟨hat,hto⟩,by show(toks.length:Int)<=most;omega⟩;refine⟨⟨ht1,by omega,by show t.e=(toks.length:Int);omega⟩,by simp,by simp only;omega,by simp,by simp only;omega,by simp only;omega,by simp only;omega,by simp only;omega,by simp only;omega,λr hr=>?_,λm hm=>?_,hnd.2,λh hh=>?_⟩
     ·have:=hr2 r (hs2 r hr);simp only;omega
     ·have:=hnd.1 m hm;simp only;omega
     ·have:=p3 h hh;simp only;omega
end Go.Gv
namespace Go.Gv
open Go.Proofs
variable {dq:Prop}
def Ro:Tri dq Tryz.prog wg s_m_Mod.pt:=
 ac (ag ae) qfa (qh9)
def cP:Tri dq Tryz.prog bP s_m_Next.pt:=qdN (S:=Jh [(wg,s_m_Mod)]) (ag (aa Ro ae)) rfl MG (by decide)
def qiB:Tri dq Tryz.prog SN s_m_New.pt:=qiy (Yi (ag ae) qe9 (by decide) qh8)
def Jj:Tri dq Tryz.prog kY s_r04_First.pt:=
 ac (ag ae) Gb (TT)
def Yq:Tri dq Tryz.prog uR s_r04_Next.pt:=
 ac (ag (aa Jj ae)) Jy (XX rfl)
def fQ:Tri dq Tryz.prog cq s_r04_ValidName.pt:=
 ac (ag (aa Jj (aa Yq ae))) xZ (JP rfl rfl)
def UE:Tri dq Tryz.prog BX s_r01_Units.pt:=
 ac (ag ae) Sf (TV)
def UD:Tri dq Tryz.prog BW s_r01_Valid.pt:=
 ac (ag (aa UE ae)) Se (TU rfl)
def qa:Tri dq Tryz.prog hZ s_r04_ValidValue.pt:=
 ac (ag (aa UD ae)) Ga (Hw rfl)
def UC:Tri dq Tryz.prog BV s_r05_Parse.pt:=
 ac (ag (aa qa ae)) Sd (TR rfl)
def Yo:Tri dq Tryz.prog EK s_r06_sign.pt:=
 ac (ag ae) VC (XV)
def OJ:Tri dq Tryz.prog wT s_r06_compare.pt:=
 ac (ag ae) Mw (Ok)
def rC:Tri dq Tryz.prog ge s_r06_CompareRegions.pt:=
 ac (ag (aa Yo (aa OJ ae))) AK (AY rfl rfl)
def HO:Tri dq Tryz.prog qB s_r06_Attributes.pt:=
 ac (ag (aa fQ ae)) F9 (Hv rfl)
def Uz:Tri dq Tryz.prog BS s_r06_Value.pt:=
 ac (ag (aa UC (aa qa ae))) Sa (TN rfl rfl)
def Ji:Tri dq Tryz.prog we s_r06_pairs.pt:=
 ac (ag (aa fQ (aa qa ae))) R8 (TL rfl rfl)
def FE:Tri dq Tryz.prog tI s_r06_within.pt:=
 ac (ag ae) OP (QQ)
def Yp:Tri dq Tryz.prog EL s_r06_bare.pt:=
 ac (ag ae) VD (XW)
def Rk:Tri dq Tryz.prog zI s_r06_TextAt.pt:=
 ac (ag ae) OS (QT)
def LK:Tri dq Tryz.prog uQ s_r06_FindText.pt:=
 ac (ag ae) Kj (Ll)
def Ba:Tri dq Tryz.prog kX s_r06_sameAttributes.pt:=
 ac (ag ae) AJ (AX)
def Rj:Tri dq Tryz.prog zH s_r06_cyclic.pt:=
 ac (ag ae) OR (QS)
def Ri:Tri dq Tryz.prog zG s_r06_tokens.pt:=
 ac (ag (aa Uz ae)) OQ (QR rfl)
def Ux:Tri dq Tryz.prog BQ s_r06_texts.pt:=
 ac (ag (aa fQ (aa Ji ae))) R7 (TK rfl rfl)
def OI:Tri dq Tryz.prog wS s_r06_regions.pt:=
 ac (ag (aa fQ (aa Ji (aa FE (aa rC ae))))) Mv (Oj rfl rfl rfl rfl)
def UB:Tri dq Tryz.prog BU s_r06_Nodes.pt:=
 ac (ag (aa fQ (aa FE ae))) Sc (TP rfl rfl)
def Uy:Tri dq Tryz.prog BR s_r06_heads.pt:=
 ac (ag (aa fQ (aa Yp (aa Rk (aa Rj ae))))) R9 (TM rfl rfl rfl rfl)
def LJ:Tri dq Tryz.prog uP s_r06_Validate.pt:=
 ac (ag (aa HO (aa Ri (aa Ux (aa OI (aa UB (aa Uy ae))))))) Ki (Lk rfl rfl rfl rfl rfl rfl)
def UA:Tri dq Tryz.prog BT s_r06_Valid.pt:=
 ac (ag (aa LJ ae)) Sb (TO rfl)
def FF:Tri dq Tryz.prog pd s_r06_SortRegions.pt:=
 ac (ag (aa rC ae)) Ef (Fd rfl)
def LI:Tri dq Tryz.prog uN s_r06_allHeads.pt:=
 ac (ag ae) Kh (Lj)
def Rl:Tri dq Tryz.prog zJ s_r06_Concat.pt:=
 ac (ag (aa UA (aa Ba (aa LK (aa LI ae))))) OT (QU rfl rfl rfl rfl)
def qdV:Tri dq Tryz.prog Nf s_m_word.pt:=
 ac (ag ae) qb9 (qdx)
def qiA:Tri dq Tryz.prog SM s_m_tag.pt:=
 ac (ag ae) qe8 (qh7)
def Rm:Tri dq Tryz.prog zL s_m_features.pt:=
 ac (ag ae) O0 (Q2)
def qdW:Tri dq Tryz.prog rP s_m_Type.pt:=
 ac (ag (aa Ro ae)) PZ (qdy rfl)
def LN:Tri dq Tryz.prog uW s_m_Attributes.pt:=
 ac (ag ae) Ks (Ls)
def LL:Tri dq Tryz.prog uT s_m_nodes.pt:=
 Jg (ag (aa cP ae)) Ko (by decide) (qby rfl)
def LM:Tri dq Tryz.prog uU s_m_heads.pt:=
 Jg (ag (aa cP ae)) Kq (by decide) (qbz rfl)
def FG:Tri dq Tryz.prog pk s_m_Document.pt:=
 ac (ag (aa cP (aa LN (aa qdV (aa qiA (aa Rm (aa qdW (aa FF (aa LL (aa LM ae)))))))))) Ei (Q4 rfl rfl rfl rfl rfl rfl rfl rfl rfl)
def Kb:Tri dq Tryz.prog sG s_m_Corpus.pt:=
 ac (ag (aa cP (aa FG (aa Rl ae)))) Ig (X2 rfl rfl rfl)
end Go.Gv
namespace Go.Gv
open Cod (enc dec)
structure Cond where
 op:Int
 name:B
 arg:B
 val:B
 lab:B
 fold:Bool
 kids:List Cond
mutual
def Nm:Cond->D
 | .mk op n a v l f ks=> .agg [enc op,enc n,enc a,enc v,enc l,enc f, .list 7 (Aw ks)]
def Aw:List Cond->List D
 | []=>[]
 |k::ks=>Nm k::Aw ks
end
mutual
def O8:D->Option Cond
 | .agg [x0,x1,x2,x3,x4,x5,x6]=>(dec x0).bind λop=>(dec x1).bind λn=>(dec x2).bind λa=>(dec x3).bind λv=>(dec x4).bind λl=>(dec x5).bind λf=>(WT x6).bind λks=>some (.mk op n a v l f ks)
 | _=>none
def WT:D->Option (List Cond)
 | .list n es=>if n=7 then B7 es else none
 | .v (.slice none 0 0)=>some []
 | _=>none
def B7:List D->Option (List Cond)
 | []=>some []
 |d::ds=>(O8 d).bind λx=>(B7 ds).bind λxs=>some (x::xs)
end
def IM:∀l:List Cond,Aw l=l.map Nm
 | []=>rfl
 | _::l=>by rw[Aw,IM l];rfl
def qa0:∀c:Cond,(Nm c).kn=true
 | .mk .. =>rfl
def WF:∀c:Cond,(Nm c).cells.length=7
 | .mk .. =>rfl
mutual
def WY:∀c:Cond,O8 (Nm c)=some c
 | .mk op n a v l f ks=>by
   have h:WT (.list 7 (Aw ks))=some ks:=by rw[WT,if_pos rfl];exact Qs ks
   simp only[Nm,O8,Cod.dec_enc,qAh,h]
def Qs:∀l:List Cond,B7 (Aw l)=some l
 | []=>by simp only[Aw,B7]
 |c::l=>by simp only[Aw,B7,WY c,Qs l,qAh]
end
mutual
def qa5:∀(d:D) (c:Cond),O8 d=some c->FrzTo cY d (Nm c)
 | .agg [x0,x1,x2,x3,x4,x5,x6],c,h=>by
   simp only[O8,qzU,qAa]at h;obtain⟨op,h0,n,h1,a,h2,v,h3,l,h4,f,h5,ks,h6,rfl⟩:=h;rw[Nm];exact LeL.agg (.cons (Cod.le _ _ h0) (.cons (Cod.le _ _ h1) (.cons (Cod.le _ _ h2) (.cons (Cod.le _ _ h3) (.cons (Cod.le _ _ h4) (.cons (Cod.le _ _ h5) (.cons (qa3 x6 ks h6) .nil)))))))
def qa3:∀(d:D) (l:List Cond),WT d=some l->FrzTo cY d (.list 7 (Aw l))
 | .list n es,l,h=>by
   simp only[WT]at h;split at h
   ·rename_i hn;subst hn;have hl:=WX es l h;refine .list hl.1 (λe he=>?_) hl.2;rw[IM]at he;obtain⟨x,hx,rfl⟩:=qz1.1 he;exact⟨qa0 x,WF x⟩
   ·cases h
 | .v (.slice none 0 0),l,h=>by
   simp only[WT,qAa]at h;subst h;exact .nil _
def WX:∀(es:List D) (l:List Cond),B7 es=some l->LeL es (Aw l)
 | [],l,h=>by
   simp only[B7,qAa]at h;subst h;exact .nil
 | d::ds,l,h=>by
   simp only[B7,qzU,qAa]at h;obtain⟨x,h1,xs,h2,rfl⟩:=h;rw[Aw];exact .cons (qa5 d x h1) (WX ds xs h2)
end
instance:Cod Cond where
 wd:=7
 enc:=Nm
 dec:=O8
 kn:=qa0
 wid:=WF
 dec_enc:=WY
 le:=qa5
def Qo(ks:List Cond):D.list 7 (Aw ks)=enc ks:=by rw[IM];rfl
def WB(op:Int)(n a v l:B)(f:Bool)(ks:List Cond):enc (Cond.mk op n a v l f ks)= .agg [enc op,enc n,enc a,enc v,enc l,enc f,enc ks]:=by
 rw[<-Qo];show Nm _=_;rw[Nm]
structure Pat where
 op:Int
 cond:Cond
 lab:B
 reg:B
 mn:Int
 mx:Int
 kids:List Pat
def B9:Cond->List D
 | .mk op n a v l f ks=>[enc op,enc n,enc a,enc v,enc l,enc f,enc ks]
def NC:∀c:Cond,(B9 c).length=7
 | .mk .. =>rfl
mutual
def KF:Pat->D
 | .mk op c l r mn mx ks=> .agg (enc op::(B9 c++ [enc l,enc r,enc mn,enc mx, .list 13 (Au ks)]))
def Au:List Pat->List D
 | []=>[]
 |k::ks=>KF k::Au ks
end
mutual
def WQ:D->Option Pat
 | .agg [x0,y0,y1,y2,y3,y4,y5,y6,x1,x2,x3,x4,x5]=>(dec x0).bind λop=>(dec (D.agg [y0,y1,y2,y3,y4,y5,y6])).bind λc=>(dec x1).bind λl=>(dec x2).bind λr=>(dec x3).bind λmn=>(dec x4).bind λmx=>(JI x5).bind λks=>some (.mk op c l r mn mx ks)
 | _=>none
def JI:D->Option (List Pat)
 | .list n es=>if n=13 then B5 es else none
 | .v (.slice none 0 0)=>some []
 | _=>none
def B5:List D->Option (List Pat)
 | []=>some []
 |d::ds=>(WQ d).bind λx=>(B5 ds).bind λxs=>some (x::xs)
end
def IK:∀l:List Pat,Au l=l.map KF
 | []=>rfl
 | _::l=>by rw[Au,IK l];rfl
def qaY:∀c:Pat,(KF c).kn=true
 | .mk .. =>rfl
def WD:∀c:Pat,(KF c).cells.length=13
 | .mk op c l r mn mx ks=>by simp[KF,D.cells,NC]
mutual
def WO:∀c:Pat,WQ (KF c)=some c
 | .mk op (.mk cop n a v cl f cks) l r mn mx ks=>by
   have h:JI (.list 13 (Au ks))=some ks:=by rw[JI,if_pos rfl];exact Qq ks
   have hc:dec (D.agg [enc cop,enc n,enc a,enc v,enc cl,enc f,enc cks])=some (Cond.mk cop n a v cl f cks):=by rw[<-WB];exact Cod.dec_enc _
   simp only[KF,B9,qAK,qAZ,WQ,Cod.dec_enc,qAh,h,hc]
def Qq:∀l:List Pat,B5 (Au l)=some l
 | []=>by simp only[Au,B5]
 |c::l=>by simp only[Au,B5,WO c,Qq l,qAh]
end
def qc0{y0 y1 y2 y3 y4 y5 y6:D}{c:Cond}(h:dec (D.agg [y0,y1,y2,y3,y4,y5,y6])=some c):LeL [y0,y1,y2,y3,y4,y5,y6] (B9 c):=by
 have h':O8 (D.agg [y0,y1,y2,y3,y4,y5,y6])=some c:=h;simp only[O8,qzU,qAa]at h';obtain⟨op,h0,n,h1,a,h2,v,h3,l,h4,f,h5,ks,h6,rfl⟩:=h';have hk:=qa3 y6 ks h6;rw[Qo]at hk;exact .cons (Cod.le _ _ h0) (.cons (Cod.le _ _ h1) (.cons (Cod.le _ _ h2) (.cons (Cod.le _ _ h3) (.cons (Cod.le _ _ h4) (.cons (Cod.le _ _ h5) (.cons hk .nil))))))
def LeL.append{a b c d:List D}(h:LeL a b)(k:LeL c d):LeL (a++c) (b++d):=by
 refine⟨by simp[h.1,k.1],λi x y hx hy=>?_⟩;rw[List.getElem?_append]at hx hy;by_cases hi:i<a.length
 ·rw[if_pos hi]at hx;rw[if_pos (by rw[<-h.1];exact hi)]at hy;exact h.2 i x y hx hy
 ·rw[if_neg hi]at hx;rw[if_neg (by rw[<-h.1];exact hi),<-h.1]at hy;exact k.2 _ x y hx hy
mutual
def qa2:∀(d:D) (c:Pat),WQ d=some c->FrzTo cY d (KF c)
 | .agg [x0,y0,y1,y2,y3,y4,y5,y6,x1,x2,x3,x4,x5],c,h=>by
   simp only[WQ,qzU,qAa]at h;obtain⟨op,h0,c,h1,l,h2,r,h3,mn,h4,mx,h5,ks,h6,rfl⟩:=h;rw[KF];exact LeL.agg (.cons (Cod.le _ _ h0) ((qc0 h1).append (.cons (Cod.le _ _ h2) (.cons (Cod.le _ _ h3) (.cons (Cod.le _ _ h4) (.cons (Cod.le _ _ h5) (.cons (qgN x5 ks h6) .nil)))))))
def qgN:∀(d:D) (l:List Pat),JI d=some l->FrzTo cY d (.list 13 (Au l))
 | .list n es,l,h=>by
   simp only[JI]at h;split at h
   ·rename_i hn;subst hn;have hl:=WN es l h;refine .list hl.1 (λe he=>?_) hl.2;rw[IK]at he;obtain⟨x,hx,rfl⟩:=qz1.1 he;exact⟨qaY x,WD x⟩
   ·cases h
 | .v (.slice none 0 0),l,h=>by
   simp only[JI,qAa]at h;subst h;exact .nil _
def WN:∀(es:List D) (l:List Pat),B5 es=some l->LeL es (Au l)
 | [],l,h=>by
   simp only[B5,qAa]at h;subst h;exact .nil
 | d::ds,l,h=>by
   simp only[B5,qzU,qAa]at h;obtain⟨x,h1,xs,h2,rfl⟩:=h;rw[Au];exact .cons (qa2 d x h1) (WN ds xs h2)
end
instance:Cod Pat where
 wd:=13
 enc:=KF
 dec:=WQ
 kn:=qaY
 wid:=WD
 dec_enc:=WO
 le:=qa2
def qcW(ks:List Pat):D.list 13 (Au ks)=enc ks:=by rw[IK];rfl
def ST(op:Int)(c:Cond)(l r:B)(mn mx:Int)(ks:List Pat):enc (Pat.mk op c l r mn mx ks)= .agg (enc op::(B9 c++ [enc l,enc r,enc mn,enc mx,enc ks])):=by
 rw[<-qcW];show KF _=_;rw[KF]
def Nv:∀es:List D,B7 es=es.mapM (dec (X:=Cond))
 | []=>by simp[B7]
 | d::es=>by
   rw[B7,qAC,Nv es];rfl
def qj1:∀d:D,WT d=dec (X:=List Cond) d:=λd=>by
 unfold WT;split
 ·rename_i n es;show _=if n=7 then es.mapM (dec (X:=Cond))else none
  rw[Nv]
 ·rfl
 ·rename_i h1 h2;show _=(match d with
   | .list n es=>if n=7 then es.mapM (dec (X:=Cond))else none
   | .v (.slice none 0 0)=>some []
   | _=>none)
  split
  ·exact absurd rfl (h1 _ _)
  ·exact absurd rfl h2
  ·rfl
def Nt:∀es:List D,B5 es=es.mapM (dec (X:=Pat))
 | []=>by simp[B5]
 | d::es=>by
   rw[B5,qAC,Nt es];rfl
def qgO:∀d:D,JI d=dec (X:=List Pat) d:=λd=>by
 unfold JI;split
 ·rename_i n es;show _=if n=13 then es.mapM (dec (X:=Pat))else none
  rw[Nt]
 ·rfl
 ·rename_i h1 h2;show _=(match d with
   | .list n es=>if n=13 then es.mapM (dec (X:=Pat))else none
   | .v (.slice none 0 0)=>some []
   | _=>none)
  split
  ·exact absurd rfl (h1 _ _)
  ·exact absurd rfl h2
  ·rfl
@[simp] theorem GW(s:Cond):Cond.mk s.op s.name s.arg s.val s.lab s.fold s.kids=s:=by cases s;rfl
@[simp] theorem qgy(s:Cond):enc s= .agg [enc s.op,enc s.name,enc s.arg,enc s.val,enc s.lab,enc s.fold,enc s.kids]:=by cases s;exact WB ..
@[simp] theorem qrG:Cod.wd Cond=7:=i' rfl
@[simp] theorem qgK(x0 x1 x2 x3 x4 x5 x6:D):dec (X:=Cond) (.agg [x0,x1,x2,x3,x4,x5,x6])=((dec x0).bind λx0=>(dec x1).bind λx1=>(dec x2).bind λx2=>(dec x3).bind λx3=>(dec x4).bind λx4=>(dec x5).bind λx5=>(dec x6).bind λx6=>some ⟨x0,x1,x2,x3,x4,x5,x6⟩):=by
 show O8 _=_;simp only[O8,qj1]
@[simp] theorem qjR(s:Pat):Pat.mk s.op s.cond s.lab s.reg s.mn s.mx s.kids=s:=by cases s;rfl
@[simp] theorem qaW(s:Pat):enc s= .agg [enc s.op,enc s.cond.op,enc s.cond.name,enc s.cond.arg,enc s.cond.val,enc s.cond.lab,enc s.cond.fold,enc s.cond.kids,enc s.lab,enc s.reg,enc s.mn,enc s.mx,enc s.kids]:=by
 obtain⟨op,⟨a,b,c,d,e,f,g⟩,l,r,mn,mx,ks⟩:=s;exact ST ..
@[simp] theorem quQ:Cod.wd Pat=13:=i' rfl
@[simp] theorem qtK(x0 y0 y1 y2 y3 y4 y5 y6 x1 x2 x3 x4 x5:D):dec (X:=Pat) (.agg [x0,y0,y1,y2,y3,y4,y5,y6,x1,x2,x3,x4,x5])=
 ((dec x0).bind λx0=>(dec y0).bind λy0=>(dec y1).bind λy1=>(dec y2).bind λy2=>(dec y3).bind λy3=>(dec y4).bind λy4=>(dec y5).bind λy5=>(dec y6).bind λy6=>
   (dec x1).bind λx1=>(dec x2).bind λx2=>(dec x3).bind λx3=>(dec x4).bind λx4=>(dec x5).bind λx5=>some ⟨x0,⟨y0,y1,y2,y3,y4,y5,y6⟩,x1,x2,x3,x4,x5⟩):=by
 show WQ _=_;simp only[WQ,qgO,qgK,Option.bind_assoc,qAh]
structure U64 where
 val:Int
deriving DecidableEq
instance:Cod U64 where
 wd:=1
 enc n:= .v (.int .u64 n.val)
 dec| .v (.int .u64 n)=>some ⟨n⟩|_=>none
 kn _:=rfl
 wid _:=rfl
 dec_enc _:=rfl
 le d x h:=by
  split at h
  ·cases h;exact .same _
  ·cases h
@[simp] theorem qtv(n:U64):enc n= .v (.int .u64 n.val):=i' rfl
@[simp] theorem quL:Cod.wd U64=1:=i' rfl
@[simp] theorem qtE(n:Int):dec (X:=U64) (.v (.int .u64 n))=some ⟨n⟩:=i' rfl
@[simp] theorem qto(n:U64):U64.mk n.val=n:=i' rfl
structure Rng where
 fr:I32
 to:I32
deriving DecidableEq
instance:Cod Rng where
 wd:=2
 enc s:= .agg [enc s.fr,enc s.to]
 dec| .agg [x0,x1]=>(dec x0).bind λx0=>(dec x1).bind λx1=>some ⟨x0,x1⟩|_=>none
 kn _:=rfl
 wid _:=rfl
 dec_enc s:=by simp
 le d x h:=by
  split at h
  ·simp only[qzU]at h;obtain⟨x0,h0,x1,h1,h⟩:=h;cases h;exact LeL.agg (.cons (Cod.le _ _ h0) (.cons (Cod.le _ _ h1) .nil))
  ·cases h
@[simp] theorem qtr(s:Rng):(Rng.mk s.fr s.to)=s:=i' rfl
@[simp] theorem qty(s:Rng):enc s= .agg [enc s.fr,enc s.to]:=i' rfl
@[simp] theorem quP:Cod.wd Rng=2:=i' rfl
@[simp] theorem qtH(x0 x1:D):dec (X:=Rng) (.agg [x0,x1])=((dec x0).bind λx0=>(dec x1).bind λx1=>some ⟨x0,x1⟩):=i' rfl
structure Rx where
 op:Int
 mn:Int
 mx:Int
 rs:List Rng
 kids:List Rx
mutual
def Nk:Rx->D
 | .mk op mn mx rs ks=> .agg [enc op,enc mn,enc mx,enc rs, .list 5 (At ks)]
def At:List Rx->List D
 | []=>[]
 |k::ks=>Nk k::At ks
end
mutual
def WM:D->Option Rx
 | .agg [x0,x1,x2,x3,x4]=>(dec x0).bind λop=>(dec x1).bind λmn=>(dec x2).bind λmx=>(dec x3).bind λrs=>(JH x4).bind λks=>some (.mk op mn mx rs ks)
 | _=>none
def JH:D->Option (List Rx)
 | .list n es=>if n=5 then B4 es else none
 | .v (.slice none 0 0)=>some []
 | _=>none
def B4:List D->Option (List Rx)
 | []=>some []
 |d::ds=>(WM d).bind λx=>(B4 ds).bind λxs=>some (x::xs)
end
def IJ:∀l:List Rx,At l=l.map Nk
 | []=>rfl
 | _::l=>by rw[At,IJ l];rfl
def qaX:∀c:Rx,(Nk c).kn=true
 | .mk .. =>rfl
def WC:∀c:Rx,(Nk c).cells.length=5
 | .mk .. =>rfl
mutual
def WL:∀c:Rx,WM (Nk c)=some c
 | .mk op mn mx rs ks=>by
   have h:JH (.list 5 (At ks))=some ks:=by rw[JH,if_pos rfl];exact Qp ks
   simp only[Nk,WM,Cod.dec_enc,qAh,h]
def Qp:∀l:List Rx,B4 (At l)=some l
 | []=>by simp only[At,B4]
 |c::l=>by simp only[At,B4,WL c,Qp l,qAh]
end
mutual
def qa1:∀(d:D) (c:Rx),WM d=some c->FrzTo cY d (Nk c)
 | .agg [x0,x1,x2,x3,x4],c,h=>by
   simp only[WM,qzU,qAa]at h;obtain⟨op,h0,mn,h1,mx,h2,rs,h3,ks,h4,rfl⟩:=h;rw[Nk];exact LeL.agg (.cons (Cod.le _ _ h0) (.cons (Cod.le _ _ h1) (.cons (Cod.le _ _ h2) (.cons (Cod.le _ _ h3) (.cons (qgL x4 ks h4) .nil)))))
def qgL:∀(d:D) (l:List Rx),JH d=some l->FrzTo cY d (.list 5 (At l))
 | .list n es,l,h=>by
   simp only[JH]at h;split at h
   ·rename_i hn;subst hn;have hl:=WK es l h;refine .list hl.1 (λe he=>?_) hl.2;rw[IJ]at he;obtain⟨x,hx,rfl⟩:=qz1.1 he;exact⟨qaX x,WC x⟩
   ·cases h
 | .v (.slice none 0 0),l,h=>by
   simp only[JH,qAa]at h;subst h;exact .nil _
def WK:∀(es:List D) (l:List Rx),B4 es=some l->LeL es (At l)
 | [],l,h=>by
   simp only[B4,qAa]at h;subst h;exact .nil
 | d::ds,l,h=>by
   simp only[B4,qzU,qAa]at h;obtain⟨x,h1,xs,h2,rfl⟩:=h;rw[At];exact .cons (qa1 d x h1) (WK ds xs h2)
end
instance:Cod Rx where
 wd:=5
 enc:=Nk
 dec:=WM
 kn:=qaX
 wid:=WC
 dec_enc:=WL
 le:=qa1
def qcV(ks:List Rx):D.list 5 (At ks)=enc ks:=by rw[IJ];rfl
def qgw(op mn mx:Int)(rs:List Rng)(ks:List Rx):enc (Rx.mk op mn mx rs ks)= .agg [enc op,enc mn,enc mx,enc rs,enc ks]:=by
 rw[<-qcV];show Nk _=_;rw[Nk]
def Ns:∀es:List D,B4 es=es.mapM (dec (X:=Rx))
 | []=>by simp[B4]
 | d::es=>by
   rw[B4,qAC,Ns es];rfl
def qgM:∀d:D,JH d=dec (X:=List Rx) d:=λd=>by
 unfold JH;split
 ·rename_i n es;show _=if n=5 then es.mapM (dec (X:=Rx))else none
  rw[Ns]
 ·rfl
 ·rename_i h1 h2;show _=(match d with
   | .list n es=>if n=5 then es.mapM (dec (X:=Rx))else none
   | .v (.slice none 0 0)=>some []
   | _=>none)
  split
  ·exact absurd rfl (h1 _ _)
  ·exact absurd rfl h2
  ·rfl
@[simp] theorem qwB(s:Rx):Rx.mk s.op s.mn s.mx s.rs s.kids=s:=by cases s;rfl
@[simp] theorem qwI(s:Rx):enc s= .agg [enc s.op,enc s.mn,enc s.mx,enc s.rs,enc s.kids]:=by cases s;exact qgw ..
@[simp] theorem qxV:Cod.wd Rx=5:=i' rfl
@[simp] theorem qwR(x0 x1 x2 x3 x4:D):dec (X:=Rx) (.agg [x0,x1,x2,x3,x4])=((dec x0).bind λx0=>(dec x1).bind λx1=>(dec x2).bind λx2=>(dec x3).bind λx3=>(dec x4).bind λx4=>some ⟨x0,x1,x2,x3,x4⟩):=by
 show WM _=_;simp only[WM,qgM]
structure Rp where
 s:B
 pos:Int
 fault:Int
 e:Int
def Rp.bump(p:Rp):Rp:={ p with pos:=p.pos+1 }
def NL(p:Rp):Option Int:=
 if 200<p.s.size then none else
 if p.pos=p.s.size then some (-1)else
 if 0<=p.pos then match p.s.data[p.pos.toNat]? with
  |some c=>if c.toNat< 128 then some c.toNat else none
  |none=>none
 else none
def qjy(sp:B)(c:Int):Bool:=sp.data.toList.any λx=>decide ((x.toNat:Int)=c)
def lQ(p:Rp)(_:Unit):Option (Rp×I32):=(NL p).map λc=>(p,⟨c⟩)
def Pu(p:Rp)(_:Unit):Option (Rp×Unit):=(NL p).bind λc=>if 0<=c then some (p.bump,())else none
def Dv(p:Rp)(_:B):Option (Rp× (I32×Bool)):=(NL p).bind λc=>if c< 0\/c=92 then none else some (p.bump,⟨c⟩,true)
def qa9:B:=⟨#[92,91,93,94,45]⟩
def VP(p:Rp)(_:Unit):Option (Rp× (I32×Bool)):=(NL p).bind λc=>if c< 0\/qjy qa9 c=true then none else Dv p qa9
def qd8(fr to:Int):Rx:=⟨1,0,0, [⟨⟨fr⟩,⟨to⟩⟩], []⟩
def tD(out:List Rng)(r:Rng):List Rng:=match out.getLast? with
 |some q=>if r.fr.val<=q.to.val+1 then out.dropLast++ [⟨q.fr,⟨max q.to.val r.to.val⟩⟩]else out++ [r]
 |none=>[r]
def HP(l:List Rng):Bool:=match l with
 | [x]=>decide (0<=x.fr.val/\x.fr.val<=1114111/\0<=x.to.val/\x.to.val<=1114111)
 | [x,y]=>decide (0<=x.fr.val/\x.fr.val<=1114111/\0<=x.to.val/\x.to.val<=1114111/\0<=y.fr.val/\y.fr.val<=1114111/\0<=y.to.val/\y.to.val<=1114111/\x.fr.val<=y.fr.val)
 | _=>false
def Gr(l:List Rng):List Rng:=l.foldl tD []
def qg5:Nat->Rp->List Rng->Option (Rp×List Rng)
 | 0,_,_=>none
 | n+1,p,l=>(NL p).bind λc=>if l≠ []/\c=93 then some (p,l)else
   (VP p ()).bind λq=>(NL q.1).bind λd=>if d=45 then none else qg5 n q.1 (l++ [⟨q.2.1,q.2.1⟩])
def qj7(p:Rp)(_:Unit):Option (Rp× (Rx×Bool)):=(NL p).bind λa=>if a≠91 then none else(NL p.bump).bind λc=>if c=94 then none else
 (qg5 100 p.bump []).bind λq=>if HP q.2=true then some (q.1.bump,⟨1,0,0,Gr q.2, []⟩,true)else none
def qpk:B:=⟨#[92,46,91,93,40,41,123,125,124,42,43,63]⟩
def qbf(p:Rp)(_:Unit):Option (Rp× (Rx×Bool)):=(NL p).bind λc=>
 if c=40 then none else if c=46 then some (p.bump,qd8 0 1114111,true)else if c=91 then qj7 p ()else
 if c≠92/\qjy qpk c=true then none else(Dv p qpk).map λq=>(q.1,qd8 q.2.1.val q.2.1.val,q.2.2)
def OK(c:Int):Option (Int×Int):=if c=42 then some (0, -1)else if c=43 then some (1, -1)else if c=63 then some (0,1)else none
def qeV(p:Rp)(_:Unit):Option (Rp× (Rx×Bool)):=(qbf p ()).bind λq=>if q.2.2=true then(NL q.1).bind λc=>if c=123 then none else match OK c with
 |some m=>(NL q.1.bump).bind λd=>if d=123\/(OK d).isSome=true then none else some (q.1.bump,⟨4,m.1,m.2, [], [q.2.1]⟩,true)
 |none=>some (q.1,q.2.1,true)
 else none
def Xd:Nat->Rp->List Rx->Option (Rp×List Rx)
 | 0,_,_=>none
 | n+1,p,l=>(NL p).bind λc=>if c< 0\/c=124\/c=41 then some (p,l)else
   (qeV p ()).bind λq=>if q.2.1.op=2 then none else Xd n q.1 (l++ [q.2.1])
def YS(op:Int):List Rx->Rx
 | [e]=>e
 |l=>⟨op,0,0, [],l⟩
def qg9(p:Rp)(_:Unit):Option (Rp× (Rx×Bool)):=(Xd 100 p []).map λq=>(q.1,YS 2 q.2,true)
def qdI:Nat->Rp->List Rx->Option (Rp×List Rx)
 | 0,_,_=>none
 | n+1,p,l=>(qg9 p ()).bind λq=>(NL q.1).bind λc=>
   if q.2.1.op=3 then none else if c=124 then qdI n q.1.bump (l++ [q.2.1])else some (q.1,l++ [q.2.1])
def qiw(p:Rp)(_:Unit):Option (Rp× (Rx×Bool)):=(qdI 100 p []).map λq=>(q.1,YS 3 q.2,true)
end Go.Gv
