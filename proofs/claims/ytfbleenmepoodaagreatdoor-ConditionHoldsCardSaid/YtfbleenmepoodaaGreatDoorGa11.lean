/- A part of the framework and of the walks: T2. -/
import Derived.Test.YtfbleenmepoodaaGreatDoorGa10
set_option linter.unusedSimpArgs false
set_option linter.unusedVariables false
set_option linter.unusedSectionVars false
set_option linter.defProp false
namespace Go.Gv
variable {dq:Prop}
inductive CI where
 | op (dst:Option Nat) (g:Option (Nat×Bool)) (c:COp)
 | frz (t n:Nat)
def CI.real:CI->Bool
 | .op _ _ _=>true
 | .frz _ _=>false
def cx(dq:Prop)(P:Program)(z:List PanicEntry->Prop)(S:Nat->Spc):CI->Prop
 | .op _ _ c=>CallOk dq P z S c
 | .frz _ _=>True
def yC(ops:Array Oper)(o:Oper):Option (Option (Nat×Bool)):=
 match o.guard with
 | none=>some none
 | some (j,b)=>((ops[j]?).bind (·.dst)).map λd=>some (d,b)
def de(P:Program)(im:List Nat)(N:Nat)(ops:Array Oper)(o:Oper):Option CI:=do
 let c <-bP P im o
 let g <-yC ops o
 if o.dst.all (· < N)then some (.op o.dst g c)else none
def gI(P:Program)(im:List Nat)(N:Nat)(ops:Array Oper):Option (List CI):=ops.toList.mapM (de P im N ops)
def iG(g:Option (Nat×Bool))(σ:Sg)(yes no:Sg->Prop):Prop:=
 match g with
 | none=>yes σ
 | some (s,b)=>match σ s with
   | .v (.bool t)=>(t=b->yes (upd σ s (.v (.bool b))))/\(t=(!b)->no (upd σ s (.v (.bool (!b)))))
   | .undef=>no σ
   | _=>False
def Bu:List D->aa->(List D->aa->Prop)->Prop
 | [],H,K=>K [] H
 | .own id x::cs,H,K=>match H id with
   | some (.row x' _ n es)=>x'=x/\Bu cs (aj H id none) λcs' H'=>K (.list n es::cs') H'
   | _=>False
 | c::cs,H,K=>Bu cs H λcs' H'=>K (c::cs') H'
open Classical in
noncomputable def XC(id:Nat)(x:Value)(L:D):D->D
 | .own i y=>if i=id/\y=x then L else .own i y
 | d=>d
noncomputable def qbk(id:Nat)(x:Value)(L:D)(σ:Sg):Sg:=λs=>XC id x L (σ s)
def Ft(t n:Nat)(σ:Sg)(H:aa)(K:Sg->aa->Prop):Prop:=
 match σ t with
 | .own id x=>match H id with
   | some (.row x' _ n' es)=>x'=x/\K (qbk id x (.list n' es) σ) (aj H id none)
   | _=>False
 | .bptr id b off=>match H id with
   | some (.box b' cs)=>b'=b/\K (upd σ t (.cptr cs off)) (aj H id none)
   | _=>False
 | .v (.slice none 0 0)=>K (upd σ t (.list n [])) H
 | .sub id x n' lo hi=>match H id with
   | some (.row x' el n'' es)=>x'=x/\n'=n''/\(if n=0 then lo=0/\∀v,K (upd σ t (.own id v)) (aj H id (some (.row v el n'' (es.take hi))))else K (upd σ t (.list n'' ((es.take hi).drop lo))) (aj H id none))
   | _=>False
 | .agg cs=>Bu cs H λcs' H'=>K (upd σ t (.agg cs')) H'
 | _=>K σ H
def xH(S:Nat->Spc):List CI->Sg->aa->(Sg->aa->Prop)->Prop
 | [],σ,H,K=>K σ H
 | .frz t n::r,σ,H,K=>Ft t n σ H λσ' H'=>xH S r σ' H' K
 | .op dst g c::r,σ,H,K=>iG g σ (λσ=>aA S c dst σ H λd H'=>xH S r (du σ dst d) H' K) (λσ=>xH S r (du σ dst .undef) H K)
section
variable {P:Program}{im:List Nat}{a:Act}{E:sw}{tp I:Nat->Prop}{H:aa}{w:World}{σ:Sg}{S:Nat->Spc}
def StW.drop(h:StW E tp H w)(id:Nat):StW E tp (aj H id none) w/\∀x d,R tp (aI E.O tp H w) w x d->R tp (aI E.O tp (aj H id none) w) w x d:=
 h.own id none (dV w none) (λb hb=>by cases hb) (λr b h1=>by cases h1) (λ_ r h1=>by cases h1)
def AR(h:StW E tp H w){id b:Nat}{r:Res}(hr:H id=some r)(hb:r.blk=some b):aI E.O tp (aj H id none) w b:=by
 have ho:=h.sat.out id r b hr hb;refine⟨(h.sat.ok id r hr).lt hb,ho.1,ho.2,λ⟨i,s,h1,h2⟩=>?_⟩;by_cases hi:i=id
 ·subst hi;simp[aj]at h1
 ·simp[aj,hi]at h1;exact hi (h.sat.dis _ _ _ _ b h1 hr h2 hb)
theorem Hw(h:StW E tp H w){id el n:Nat}{x:Value}{es:List D}(hr:H id=some (.row x el n es)):R tp (aI E.O tp (aj H id none) w) w x (.list n es):=by
 obtain⟨xs,⟨g1,g2⟩,g3,g4⟩:=h.sat.ok id _ hr;have hm:=(h.drop id).2;have hfl:=aF (es:=es) (λd hd=>(g3 d hd).2);rcases g2 with⟨rfl,h0⟩|⟨g,cap,cur,rfl,_,g5,g6,g7,g8,g9⟩
 ·have:es=[]:=qjP h0;subst this;exact .nolist _ _ _
 ·have hcell:∀ (k:Nat) (c:D),(aR es)[k]? =some c->∃y,xs[k]? =some y/\w.cell? ⟨g,0+k,none⟩=some y/\y.oneCell'=true/\R tp (aI E.O tp (aj H id none) w) w y c:=by
   intro k c hk;have hlt:k < xs.length:=by
    rw[g1,<-hfl];exact(qjA.1 hk).1
   have hy:xs[k]? =some xs[k]:=qjC hlt;refine⟨xs[k],hy,?_,(g4 k _ c hy hk).1,hm _ _ (g4 k _ c hy hk).2⟩;rw[qki,cell_of_row w g k cur el (0,0) g5];have:(cur.toList.take (es.length*n))[k]? =some xs[k]:=by rw[g9];exact hy
   rw[qjS]at this;split at this
   ·simpa using this
   ·cases this
  refine .list g 0 cap n es (λk=>xs.getD k undef) (AR h hr rfl) g6 g7 (λ_=>⟨_,_,g5⟩) g3 (λk c hk=>?_) (λk c hk=>?_) (λk c hk=>?_)
  all_goals
   obtain⟨y,h1,h2,h3,h4⟩:=hcell k c hk;have hg:xs.getD k undef=y:=by simp[List.getD,h1]
   try dsimp only
   rw[hg]
  ·exact h2
  ·exact h3
  ·exact h4
def US(h:StW E tp H w){id b off:Nat}{cs:List D}(hr:H id=some (.box b cs)):R tp (aI E.O tp (aj H id none) w) w (.pointer (some ⟨b,off,none⟩)) (.cptr cs off):=by
 obtain⟨xs,el,g1,g2,g3⟩:=h.sat.ok id _ hr;have hm:=(h.drop id).2;obtain⟨f,k1,k2,k3⟩:=qz g1 g2 (λk y c h1 h2=>⟨(g3 k y c h1 h2).1,hm _ _ (g3 k y c h1 h2).2⟩);have:=R.cptr (tp:=tp) b 0 cs off f (AR h hr rfl) (λ_=>⟨_,_,g1⟩) k1 k2 k3;simpa using this
theorem Md:∀ (cs:List D) (H:aa) (K:List D->aa->Prop) (xs:List Value),StW E tp H w->xs.length=cs.length->ba (R tp (aI E.O tp H w) w) xs cs->Bu cs H K->
 ∃cs' H',StW E tp H' w/\(∀x d,R tp (aI E.O tp H w) w x d->R tp (aI E.O tp H' w) w x d)/\xs.length=cs'.length/\ba (R tp (aI E.O tp H' w) w) xs cs'/\K cs' H':=by
 intro cs
 induction cs with
 | nil=>intro H K xs hst hl hc hv;exact⟨[],H,hst,λ_ _ h=>h,hl,hc,hv⟩
 | cons c cs ih=>
   intro H K xs hst hl hc hv;cases xs with
   | nil=>simp at hl
   | cons x xs=>
     simp at hl;have hx:=hc 0 x c rfl rfl;have htl:∀ {H':aa},(∀x d,R tp (aI E.O tp H w) w x d->R tp (aI E.O tp H' w) w x d)->ba (R tp (aI E.O tp H' w) w) xs cs:=λm k y e h1 h2=>
      ⟨(hc (k+1) y e (by simpa using h1) (by simpa using h2)).1,m _ _ (hc (k+1) y e (by simpa using h1) (by simpa using h2)).2⟩
     have keep:(∃H1 c',StW E tp H1 w/\(∀x d,R tp (aI E.O tp H w) w x d->R tp (aI E.O tp H1 w) w x d)/\R tp (aI E.O tp H1 w) w x c'/\Bu cs H1 λcs' H'=>K (c'::cs') H'):=by
      have plain:(∀id y,c≠ .own id y)->Bu cs H (λcs' H'=>K (c::cs') H'):=by
       intro hne;cases c <;> first|exact hv|(exact absurd rfl (hne _ _))
      by_cases hown:∃id y,c= .own id y
      ·obtain⟨id,y,rfl⟩:=hown;simp only[Bu]at hv;split at hv
       ·rename_i x' el n es hH;obtain⟨rfl,hv⟩:=hv;have hd:=hst.drop id;have hxe:x=x':=by cases hx.2;rfl
        subst hxe;exact⟨aj H id none,_,hd.1,hd.2,Hw hst hH,hv⟩
       ·exact hv.elim
      ·exact⟨H,c,hst,λ_ _ h=>h,hx.2,plain (λid y h=>hown ⟨id,y,h⟩)⟩
     obtain⟨H1,c',s1,m1,r1,v1⟩:=keep;obtain⟨cs',H',s2,m2,l2,c2,k2⟩:=ih H1 _ xs s1 hl (htl m1) v1;refine⟨c'::cs',H',s2,λy d h=>m2 _ _ (m1 _ _ h),by simp[l2],λk y e h1 h2=>?_,k2⟩;cases k with
     | zero=>simp at h1 h2;subst h1;subst h2;exact⟨hx.1,m2 _ _ r1⟩
     | succ k=>simp at h1 h2;exact c2 k y e h1 h2
theorem UP(h:StW E tp H w){id el n lo hi:Nat}{x q:Value}{es:List D}{I:Nat->Prop}(hr:H id=some (.row x el n es))(hl:R tp (aI E.O tp (aj H id none) w) w x (.list n es))(hq:R tp I w q (.sub id x n lo hi)):
 R tp (aI E.O tp (aj H id none) w) w q (.list n ((es.take hi).drop lo)):=by
 cases hq with
 | subnil=>
   have:((es.take 0).drop 0)=[]:=by simp
   rw[this];exact .nolist _ _ _
 | sub _ b len cap _ _ _ p h1 h2 h3 hm hp=>
   cases hl with
   | nolist _ _ _=>
     have e0:hi -lo=0:=by omega
     rw[e0,qlt,qli];exact .nolist _ _ _
   | list _ _ _ _ _ f hI hc hm' hz hn hcell hone hR=>
     by_cases hlc:lo < cap\/lo=0
     ·have:=Df hI hc hm' hz hn hcell hone hR h1 h2;rw[hp hlc];simpa using this
     ·have e0:hi -lo=0:=by omega
      have e1:(es.take hi).drop lo=[]:=by
       apply qjP;simp;omega
      rw[e0,e1];exact .nolist _ _ _
theorem Z6(h:StW E tp H w){id el n hi:Nat}{x q:Value}{es:List D}(hr:H id=some (.row x el n es))(hq:R tp (aI E.O tp H w) w q (.sub id x n 0 hi)):
 q.oneCell'=true/\StW E tp (aj H id (some (.row q el n (es.take hi)))) w/\∀y e,R tp (aI E.O tp H w) w y e->R tp (aI E.O tp (aj H id (some (.row q el n (es.take hi)))) w) w y e:=by
 obtain⟨xs,⟨g1,g2⟩,g3,g4⟩:=h.sat.ok id _ hr;cases hq with
 | subnil=>
   refine⟨rfl,h.own id _ (dV w none) (λb hb=>by cases hb) (λr b h1 h2=>by cases h1;simp[Res.blk,Value.ownBlock]at h2) (λm r h1=>?_)⟩;cases h1;rw[qlq];exact⟨[],qkR _ _ _ _,by simp,λk y c h=>by simp at h⟩
 | sub _ b len cap _ _ _ p h1 h2 h3 hm hp=>
   have:=hp (.inr rfl);subst this;rcases g2 with⟨h,_⟩|⟨g,cap',cur,h',g4',g5,g6,g7,g8,g9⟩
   ·cases h
   ·cases h';have hl:(es.take hi).length=hi:=by simp;omega
    have hmul2:hi*n<=es.length*n:=qj9 n h2;refine⟨rfl,h.own id _ (dV w none) (λb hb=>by cases hb) (λr b' h1 h2=>by cases h1;exact .inr ⟨_,hr,by simpa [Res.blk,Value.ownBlock]using h2⟩) (λm r h1=>?_)⟩;cases h1;refine⟨xs.take (hi*n),?_,λd hd=>g3 d (qjX hd),λk y c hy hc=>?_⟩
    ·rw[hl];refine⟨by rw[qj3,g1];omega, .inr ⟨b,cap,cur,by simp,qj5 _,g5,by omega,g7,g8,?_⟩⟩;rw[<-g9,qlF];congr 1;omega
    ·rw[qjS]at hy;split at hy
     ·have:=g4 k y c hy (iD hc);exact⟨this.1,m _ _ this.2⟩
     ·cases hy
theorem Fs{t n:Nat}{K:Sg->aa->Prop}(hst:St E σ H a w)(hv:Ft t n σ H K):∃σ' H',St E σ' H' a w/\K σ' H':=by
 obtain⟨hd,hN,tp,hw,hr⟩:=hst;have mk:∀ (H':aa) (d:D),StW E tp H' w->(∀x e,R tp (aI E.O tp H w) w x e->R tp (aI E.O tp H' w) w x e)->R tp (aI E.O tp H' w) w (a.tmps.getD t undef) d->St E (upd σ t d) H' a w:=by
  intro H' d h1 h2 h3;refine⟨hd,hN,tp,h1,λs=>?_⟩;unfold upd;split
  ·rename_i h;subst h;exact h3
  ·exact h2 _ _ (hr s)
 have ht:=hr t;simp only[Ft]at hv;split at hv
 ·rename_i id x e1;rw[e1]at ht;split at hv
  ·rename_i x' el n' es hH;obtain⟨rfl,hk⟩:=hv;have hm:=hw.drop id;have hxe:a.tmps.getD t undef=x':=by
    generalize a.tmps.getD t undef=q at ht;cases ht;rfl
   refine⟨_,_,⟨hd,hN,tp,hm.1,λs=>?_⟩,hk⟩;have hs:=hr s;unfold qbk;generalize a.tmps.getD s undef=q at hs ⊢;cases hσ:σ s with
   | own i y=>
     rw[hσ]at hs;simp only[XC];split
     ·rename_i hiy;obtain⟨rfl,rfl⟩:=hiy;cases hs;exact Hw hw hH
     ·exact hm.2 _ _ hs
   | _=>rw[hσ]at hs;exact hm.2 _ _ hs
  ·exact hv.elim
 ·rename_i id b off e1;rw[e1]at ht;split at hv
  ·rename_i b' cs hH;obtain⟨rfl,hk⟩:=hv;have hm:=hw.drop id;have hxe:a.tmps.getD t undef= .pointer (some ⟨b',off,none⟩):=by
    generalize a.tmps.getD t undef=q at ht;cases ht;rfl
   exact⟨_,_,mk _ _ hm.1 hm.2 (by rw[hxe];exact US hw hH),hk⟩
  ·exact hv.elim
 ·rename_i e1;rw[e1]at ht;exact⟨_,_,mk _ _ hw (λ_ _ h=>h) (by rw[ht.inv_v];exact .nolist _ _ _),hv⟩
 ·rename_i id x n' lo hi e1;rw[e1]at ht;split at hv
  ·rename_i x' el n'' es hH;obtain⟨hxe,rfl,hk⟩:=hv;subst hxe;split at hk
   ·obtain⟨rfl,hk⟩:=hk;obtain⟨r1,r2,r3⟩:=Z6 hw hH ht;exact⟨_,_,mk _ _ r2 r3 (.own _ _ r1),hk _⟩
   ·have hm:=hw.drop id;exact⟨_,_,mk _ _ hm.1 hm.2 (UP hw hH (Hw hw hH) ht),hk⟩
  ·exact hv.elim
 ·rename_i cs e1;rw[e1]at ht;obtain⟨xs,hx,hl,hc⟩:=ht.inv_agg;obtain⟨cs',H',s1,m1,l1,c1,k1⟩:=Md cs H _ xs hw hl hc hv;refine⟨_,_,mk _ _ s1 m1 ?_,k1⟩;rw[hx];refine .agg xs cs' l1 (λx hx'=>?_) (λk x c h1 h2=>(c1 k x c h1 h2).2);obtain⟨k,hk⟩:=qjY.1 hx';have hlt:k < cs'.length:=by rw[<-l1];exact(qjA.1 hk).1
  exact(c1 k x _ hk (qjC hlt)).1
 ·exact⟨_,_,⟨hd,hN,tp,hw,hr⟩,hv⟩
def FN{ops:Array Oper}{j s:Nat}{t:Bool}(hr:R tp I w (a.tmps.getD s undef) (.v (.bool t)))(hj:(ops[j]?).bind (·.dst)=some s):yielded ops a.tmps j=some t:=by
 have h:=hr.inv_v;unfold yielded;rw[hj];simp only[qjV];rw[qj1]at h;cases hq:a.tmps[s]? with
 | none=>rw[hq]at h;simp[undef]at h
 | some q=>rw[hq]at h;simp at h;subst h;rfl
def DX{ops:Array Oper}{j s:Nat}(hr:R tp I w (a.tmps.getD s undef) .undef)(hj:(ops[j]?).bind (·.dst)=some s):yielded ops a.tmps j=none:=by
 have h:a.tmps.getD s undef=undef:=by
  generalize a.tmps.getD s undef=q at hr;cases hr;rfl
 unfold yielded;rw[hj];simp only[qjV];rw[qj1]at h;cases hq:a.tmps[s]? with
 | none=>rfl
 | some q=>rw[hq]at h;simp at h;subst h;rfl
def xJ{s:Nat}{d:D}(h:σ s=d):upd σ s d=σ:=by
 funext t;unfold upd;split
 ·rename_i e;rw[e,h]
 ·rfl
theorem tK{ops:Array Oper}{o:Oper}{g:Option (Nat×Bool)}{yes no:Sg->Prop}(hg:yC ops o=some g)(hr:∀t,R tp I w (a.tmps.getD t undef) (σ t))(hv:iG g σ yes no):
 (Region.wanted o (yielded ops a.tmps)=true/\yes σ)\/(Region.wanted o (yielded ops a.tmps)=false/\no σ):=by
 unfold yC at hg;cases ho:o.guard with
 | none=>
   rw[ho]at hg;simp at hg;subst hg;exact .inl ⟨by simp[Region.wanted,ho],hv⟩
 | some jb=>
   obtain⟨j,b⟩:=jb;rw[ho]at hg;obtain⟨s,hs,rfl⟩:=ay hg;simp only[iG]at hv;have hrs:=hr s;split at hv
   ·rename_i t e1;rw[e1]at hrs;have hy:=FN hrs hs;cases hb:(t==b)with
    | true=>
      have:t=b:=by simpa using hb
      subst this;refine .inl ⟨by simp[Region.wanted,ho,hy],?_⟩;have:=hv.1 rfl;rwa [xJ e1]at this
    | false=>
      have hne:t=(!b):=by cases t <;> cases b <;> simp_all
      refine .inr ⟨by simp only[Region.wanted,ho,hy,hne];cases b <;> rfl,?_⟩;have:=hv.2 hne;rw[<-hne,xJ e1]at this;exact this
   ·rename_i e1;rw[e1]at hrs;have hy:=DX hrs hs;exact .inr ⟨by simp[Region.wanted,ho,hy],hv⟩
   ·exact hv.elim
def St.skip(hst:St E σ H a w)(dst:Option Nat)(hdst:∀t,dst=some t->t < E.N):St E (du σ dst .undef) H (a.put dst undef) w:=by
 obtain⟨hd,hN,tp,hw,hr⟩:=hst;exact St.put hd hN hr ⟨hw,λ_ _ h=>h⟩ dst hdst .undef
def Sc{N:Nat}{o:Oper}(h:o.dst.all (· < N)=true):∀t,o.dst=some t->t < N:=by
 intro t ht;rw[ht]at h;simpa using h
theorem EY{ops:Array Oper}{Q:Exit->Act->World->Prop}{K:Sg->aa->Prop}{z:List PanicEntry->Prop}(hpan:∀c a w',a.defers=E.ds->ME E z c w'->Q (.panic c) a w')(hQ:∀σ H a w,St E σ H a w->K σ H->Q .normal a w):
 ∀ (cis:List CI) (hS:∀x∈cis,cx E.dq P z S x) (l:List Oper),l.mapM (de P im E.N ops)=some (cis.filter CI.real)->∀ (σ:Sg) (H:aa) (a:Act) (w:World),St E σ H a w->xH S cis σ H K->wpList P ops Q l a w:=by
 intro cis
 induction cis with
 | nil=>
   intro hS l hl σ H a w hst hv;cases l with
   | nil=>exact hQ σ H a w hst hv
   | cons o l=>
     rw[qkd]at hl;simp only[qjB,qjy,List.filter_nil]at hl;obtain⟨x,_,y,_,h⟩:=hl;cases h
 | cons x cis ih=>
   intro hS l hl σ H a w hst hv;have ih:=ih λx hx=>hS x (by simp[hx])
   have hS0:=hS _ (qlP ..);cases x with
   | frz t n=>
     simp only[xH]at hv;obtain⟨σ',H',hst',hv'⟩:=Fs hst hv;exact ih l (by simpa [qkC,CI.real]using hl) σ' H' a w hst' hv'
   | op dst g c=>
     cases l with
     | nil=>simp[qkC,CI.real]at hl
     | cons o l=>
       rw[qkd]at hl;simp only[qjB,qjy,qkC,CI.real,if_true]at hl;obtain⟨x,hx,y,hy,h⟩:=hl;cases h;unfold de at hx;simp only[qjB,qjy]at hx;obtain⟨c',hc,g',hg,hx⟩:=hx;split at hx
       ·rename_i hdst;cases hx;have hdst:=Sc hdst;have hst0:=hst;obtain⟨hd,hN,tp,hw,hr⟩:=hst;simp only[xH]at hv;unfold wpList;rcases tK hg hr hv with⟨hwant,hyes⟩|⟨hwant,hno⟩
        ·rw[if_pos hwant];exact .inl (AE hS0 hc hw hd hN hr hdst hyes (λc w'=>hpan c a w' hd) (λr H' x w' hk hst'=>ih l hy _ _ _ _ hst' hk))
        ·rw[if_neg (by simp[hwant])];exact ih l hy _ _ _ _ (hst0.skip o.dst hdst) hno
       ·cases hx
end
end Go.Gv
