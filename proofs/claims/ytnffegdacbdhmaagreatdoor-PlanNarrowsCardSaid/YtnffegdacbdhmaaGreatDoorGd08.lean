/- T2 -/
import Derived.Test.YtnffegdacbdhmaaGreatDoorGd07
set_option linter.all false
namespace Go.Gv
variable {dq:Prop}
inductive CI where
 |op (dst:Option Nat) (g:Option (Nat×Bool)) (c:COp)
 |frz (t n:Nat)
def CI.real:CI->Bool
 | .op _ _ _=>true
 | .frz _ _=>false
def dG(dq:Prop)(P:Program)(z:List PanicEntry->Prop)(S:Nat->Spc):CI->Prop
 | .op _ _ c=>CallOk dq P z S c
 | .frz _ _=>True
def GB(ops:Array Oper)(o:Oper):Option (Option (Nat×Bool)):=
 match o.guard with
 |none=>some none
 |some (j,b)=>((ops[j]?).bind (·.dst)).map λd=>some (d,b)
def eQ(P:Program)(im:List Nat)(N:Nat)(ops:Array Oper)(o:Oper):Option CI:=do
 let c <-cN P im o
 let g <-GB ops o
 if o.dst.all (· < N)then some (.op o.dst g c)else none
def ld(P:Program)(im:List Nat)(N:Nat)(ops:Array Oper):Option (List CI):=ops.toList.mapM (eQ P im N ops)
def mV(g:Option (Nat×Bool))(σ:Sg)(yes no:Sg->Prop):Prop:=
 match g with
 |none=>yes σ
 | some (s,b)=>match σ s with
   | .v (.bool t)=>(t=b->yes (upd σ s (.v (.bool b))))/\(t=(!b)->no (upd σ s (.v (.bool (!b)))))
   | .undef=>no σ
   | _=>False
def Iv:List D->ab->(List D->ab->Prop)->Prop
 | [],H,K=>K [] H
 | .own id x::cs,H,K=>match H id with
   |some (.row x' _ n es)=>x'=x/\Iv cs (ai H id none) λcs' H'=>K (.list n es::cs') H'
   | _=>False
 |c::cs,H,K=>Iv cs H λcs' H'=>K (c::cs') H'
open Classical in
noncomputable def KA(id:Nat)(x:Value)(L:D):D->D
 | .own i y=>if i=id/\y=x then L else .own i y
 |d=>d
noncomputable def qcS(id:Nat)(x:Value)(L:D)(σ:Sg):Sg:=λs=>KA id x L (σ s)
def JG(t n:Nat)(σ:Sg)(H:ab)(K:Sg->ab->Prop):Prop:=
 match σ t with
 | .own id x=>match H id with
   |some (.row x' _ n' es)=>x'=x/\K (qcS id x (.list n' es) σ) (ai H id none)
   | _=>False
 | .bptr id b off=>match H id with
   |some (.box b' cs)=>b'=b/\K (upd σ t (.cptr cs off)) (ai H id none)
   | _=>False
 | .v (.slice none 0 0)=>K (upd σ t (.list n [])) H
 | .sub id x n' lo hi=>match H id with
   |some (.row x' el n'' es)=>x'=x/\n'=n''/\(if n=0 then lo=0/\∀v,K (upd σ t (.own id v)) (ai H id (some (.row v el n'' (es.take hi))))else K (upd σ t (.list n'' ((es.take hi).drop lo))) (ai H id none))
   | _=>False
 | .agg cs=>Iv cs H λcs' H'=>K (upd σ t (.agg cs')) H'
 | _=>K σ H
def DU(S:Nat->Spc):List CI->Sg->ab->(Sg->ab->Prop)->Prop
 | [],σ,H,K=>K σ H
 | .frz t n::r,σ,H,K=>JG t n σ H λσ' H'=>DU S r σ' H' K
 | .op dst g c::r,σ,H,K=>mV g σ (λσ=>aI S c dst σ H λd H'=>DU S r (fq σ dst d) H' K) (λσ=>DU S r (fq σ dst .undef) H K)
section
variable {P:Program}{im:List Nat}{a:Act}{E:AD}{tp I:Nat->Prop}{H:ab}{w:World}{σ:Sg}{S:Nat->Spc}
def StW.drop(h:StW E tp H w)(id:Nat):StW E tp (ai H id none) w/\∀x d,R tp (bh E.O tp H w) w x d->R tp (bh E.O tp (ai H id none) w) w x d:=
 h.own id none (ga w none) (λb hb=>by cases hb) (λr b h1=>by cases h1) (λ_ r h1=>by cases h1)
def JF(h:StW E tp H w){id b:Nat}{r:Res}(hr:H id=some r)(hb:r.blk=some b):bh E.O tp (ai H id none) w b:=by
 have ho:=h.sat.out id r b hr hb;refine⟨(h.sat.ok id r hr).lt hb,ho.1,ho.2,λ⟨i,s,h1,h2⟩=>?_⟩;by_cases hi:i=id
 ·subst hi;simp[ai]at h1
 ·simp[ai,hi]at h1;exact hi (h.sat.dis _ _ _ _ b h1 hr h2 hb)
theorem SH(h:StW E tp H w){id el n:Nat}{x:Value}{es:List D}(hr:H id=some (.row x el n es)):R tp (bh E.O tp (ai H id none) w) w x (.list n es):=by
 obtain⟨xs,⟨g1,g2⟩,g3,g4⟩:=h.sat.ok id _ hr;have hm:=(h.drop id).2;have hfl:=aY (es:=es) (λd hd=>(g3 d hd).2);rcases g2 with⟨rfl,h0⟩|⟨g,cap,cur,rfl,_,g5,g6,g7,g8,g9⟩
 ·have:es=[]:=qAd h0;subst this;exact .nolist _ _ _
 ·have hcell:∀(k:Nat) (c:D),(be es)[k]? =some c->∃y,xs[k]? =some y/\w.cell? ⟨g,0+k,none⟩=some y/\y.oneCell'=true/\R tp (bh E.O tp (ai H id none) w) w y c:=by
   intro k c hk;have hlt:k<xs.length:=by
    rw[g1,<-hfl];exact(qzV.1 hk).1
   have hy:xs[k]? =some xs[k]:=qzX hlt;refine⟨xs[k],hy,?_,(g4 k _ c hy hk).1,hm _ _ (g4 k _ c hy hk).2⟩;rw[qAG,cell_of_row w g k cur el (0,0) g5];have:(cur.toList.take (es.length*n))[k]? =some xs[k]:=by rw[g9];exact hy
   rw[qAf]at this;split at this
   ·simpa using this
   ·cases this
  refine .list g 0 cap n es (λk=>xs.getD k undef) (JF h hr rfl) g6 g7 (λ_=>⟨_,_,g5⟩) g3 (λk c hk=>?_) (λk c hk=>?_) (λk c hk=>?_)
  all_goals
   obtain⟨y,h1,h2,h3,h4⟩:=hcell k c hk;have hg:xs.getD k undef=y:=by simp[List.getD,h1]
   try dsimp only
   rw[hg]
  ·exact h2
  ·exact h3
  ·exact h4
def qjG(h:StW E tp H w){id b off:Nat}{cs:List D}(hr:H id=some (.box b cs)):R tp (bh E.O tp (ai H id none) w) w (.pointer (some ⟨b,off,none⟩)) (.cptr cs off):=by
 obtain⟨xs,el,g1,g2,g3⟩:=h.sat.ok id _ hr;have hm:=(h.drop id).2;obtain⟨f,k1,k2,k3⟩:=yn g1 g2 (λk y c h1 h2=>⟨(g3 k y c h1 h2).1,hm _ _ (g3 k y c h1 h2).2⟩);have:=R.cptr (tp:=tp) b 0 cs off f (JF h hr rfl) (λ_=>⟨_,_,g1⟩) k1 k2 k3;simpa using this
theorem Ze:∀(cs:List D) (H:ab) (K:List D->ab->Prop) (xs:List Value),StW E tp H w->xs.length=cs.length->bN (R tp (bh E.O tp H w) w) xs cs->Iv cs H K->
 ∃cs' H',StW E tp H' w/\(∀x d,R tp (bh E.O tp H w) w x d->R tp (bh E.O tp H' w) w x d)/\xs.length=cs'.length/\bN (R tp (bh E.O tp H' w) w) xs cs'/\K cs' H':=by
 intro cs
 induction cs with
 |nil=>intro H K xs hst hl hc hv;exact⟨[],H,hst,λ_ _ h=>h,hl,hc,hv⟩
 | cons c cs ih=>
   intro H K xs hst hl hc hv;cases xs with
   |nil=>simp at hl
   | cons x xs=>
     simp at hl;have hx:=hc 0 x c rfl rfl;have htl:∀{H':ab},(∀x d,R tp (bh E.O tp H w) w x d->R tp (bh E.O tp H' w) w x d)->bN (R tp (bh E.O tp H' w) w) xs cs:=λm k y e h1 h2=>
      ⟨(hc (k+1) y e (by simpa using h1) (by simpa using h2)).1,m _ _ (hc (k+1) y e (by simpa using h1) (by simpa using h2)).2⟩
     have keep:(∃H1 c',StW E tp H1 w/\(∀x d,R tp (bh E.O tp H w) w x d->R tp (bh E.O tp H1 w) w x d)/\R tp (bh E.O tp H1 w) w x c'/\Iv cs H1 λcs' H'=>K (c'::cs') H'):=by
      have plain:(∀id y,c≠ .own id y)->Iv cs H (λcs' H'=>K (c::cs') H'):=by
       intro hne;cases c<;>first|exact hv|(exact absurd rfl (hne _ _))
      by_cases hown:∃id y,c= .own id y
      ·obtain⟨id,y,rfl⟩:=hown;simp only[Iv]at hv;split at hv
       ·rename_i x' el n es hH;obtain⟨rfl,hv⟩:=hv;have hd:=hst.drop id;have hxe:x=x':=by cases hx.2;rfl
        subst hxe;exact⟨ai H id none,_,hd.1,hd.2,SH hst hH,hv⟩
       ·exact hv.elim
      ·exact⟨H,c,hst,λ_ _ h=>h,hx.2,plain (λid y h=>hown ⟨id,y,h⟩)⟩
     obtain⟨H1,c',s1,m1,r1,v1⟩:=keep;obtain⟨cs',H',s2,m2,l2,c2,k2⟩:=ih H1 _ xs s1 hl (htl m1) v1;refine⟨c'::cs',H',s2,λy d h=>m2 _ _ (m1 _ _ h),by simp[l2],λk y e h1 h2=>?_,k2⟩;cases k with
     |zero=>simp at h1 h2;subst h1;subst h2;exact⟨hx.1,m2 _ _ r1⟩
     |succ k=>simp at h1 h2;exact c2 k y e h1 h2
theorem qjF(h:StW E tp H w){id el n lo hi:Nat}{x q:Value}{es:List D}{I:Nat->Prop}(hr:H id=some (.row x el n es))(hl:R tp (bh E.O tp (ai H id none) w) w x (.list n es))(hq:R tp I w q (.sub id x n lo hi)):
 R tp (bh E.O tp (ai H id none) w) w q (.list n ((es.take hi).drop lo)):=by
 cases hq with
 | subnil=>
   have:((es.take 0).drop 0)=[]:=by simp
   rw[this];exact .nolist _ _ _
 | sub _ b len cap _ _ _ p h1 h2 h3 hm hp=>
   cases hl with
   | nolist _ _ _=>
     have e0:hi -lo=0:=by omega
     rw[e0,qB9,qBW];exact .nolist _ _ _
   | list _ _ _ _ _ f hI hc hm' hz hn hcell hone hR=>
     by_cases hlc:lo<cap\/lo=0
     ·have:=MX hI hc hm' hz hn hcell hone hR h1 h2;rw[hp hlc];simpa using this
     ·have e0:hi -lo=0:=by omega
      have e1:(es.take hi).drop lo=[]:=by
       apply qAd;simp;omega
      rw[e0,e1];exact .nolist _ _ _
theorem qpo(h:StW E tp H w){id el n hi:Nat}{x q:Value}{es:List D}(hr:H id=some (.row x el n es))(hq:R tp (bh E.O tp H w) w q (.sub id x n 0 hi)):
 q.oneCell'=true/\StW E tp (ai H id (some (.row q el n (es.take hi)))) w/\∀y e,R tp (bh E.O tp H w) w y e->R tp (bh E.O tp (ai H id (some (.row q el n (es.take hi)))) w) w y e:=by
 obtain⟨xs,⟨g1,g2⟩,g3,g4⟩:=h.sat.ok id _ hr;cases hq with
 | subnil=>
   refine⟨rfl,h.own id _ (ga w none) (λb hb=>by cases hb) (λr b h1 h2=>by cases h1;simp[Res.blk,Value.ownBlock]at h2) (λm r h1=>?_)⟩;cases h1;rw[qB6];exact⟨[],qBw _ _ _ _,by simp,λk y c h=>by simp at h⟩
 | sub _ b len cap _ _ _ p h1 h2 h3 hm hp=>
   have:=hp (.inr rfl);subst this;rcases g2 with⟨h,_⟩|⟨g,cap',cur,h',g4',g5,g6,g7,g8,g9⟩
   ·cases h
   ·cases h';have hl:(es.take hi).length=hi:=by simp;omega
    have hmul2:hi*n<=es.length*n:=qAy n h2;refine⟨rfl,h.own id _ (ga w none) (λb hb=>by cases hb) (λr b' h1 h2=>by cases h1;exact .inr ⟨_,hr,by simpa [Res.blk,Value.ownBlock]using h2⟩) (λm r h1=>?_)⟩;cases h1;refine⟨xs.take (hi*n),?_,λd hd=>g3 d (qAl hd),λk y c hy hc=>?_⟩
    ·rw[hl];refine⟨by rw[qAq,g1];omega, .inr ⟨b,cap,cur,by simp,qAr _,g5,by omega,g7,g8,?_⟩⟩;rw[<-g9,qCk];congr 1;omega
    ·rw[qAf]at hy;split at hy
     ·have:=g4 k y c hy (mJ hc);exact⟨this.1,m _ _ this.2⟩
     ·cases hy
theorem Qj{t n:Nat}{K:Sg->ab->Prop}(hst:St E σ H a w)(hv:JG t n σ H K):∃σ' H',St E σ' H' a w/\K σ' H':=by
 obtain⟨hd,hN,tp,hw,hr⟩:=hst;have mk:∀(H':ab) (d:D),StW E tp H' w->(∀x e,R tp (bh E.O tp H w) w x e->R tp (bh E.O tp H' w) w x e)->R tp (bh E.O tp H' w) w (a.tmps.getD t undef) d->St E (upd σ t d) H' a w:=by
  intro H' d h1 h2 h3;refine⟨hd,hN,tp,h1,λs=>?_⟩;unfold upd;split
  ·rename_i h;subst h;exact h3
  ·exact h2 _ _ (hr s)
 have ht:=hr t;simp only[JG]at hv;split at hv
 ·rename_i id x e1;rw[e1]at ht;split at hv
  ·rename_i x' el n' es hH;obtain⟨rfl,hk⟩:=hv;have hm:=hw.drop id;have hxe:a.tmps.getD t undef=x':=by
    generalize a.tmps.getD t undef=q at ht;cases ht;rfl
   refine⟨_,_,⟨hd,hN,tp,hm.1,λs=>?_⟩,hk⟩;have hs:=hr s;unfold qcS;generalize a.tmps.getD s undef=q at hs ⊢;cases hσ:σ s with
   | own i y=>
     rw[hσ]at hs;simp only[KA];split
     ·rename_i hiy;obtain⟨rfl,rfl⟩:=hiy;cases hs;exact SH hw hH
     ·exact hm.2 _ _ hs
   | _=>rw[hσ]at hs;exact hm.2 _ _ hs
  ·exact hv.elim
 ·rename_i id b off e1;rw[e1]at ht;split at hv
  ·rename_i b' cs hH;obtain⟨rfl,hk⟩:=hv;have hm:=hw.drop id;have hxe:a.tmps.getD t undef= .pointer (some ⟨b',off,none⟩):=by
    generalize a.tmps.getD t undef=q at ht;cases ht;rfl
   exact⟨_,_,mk _ _ hm.1 hm.2 (by rw[hxe];exact qjG hw hH),hk⟩
  ·exact hv.elim
 ·rename_i e1;rw[e1]at ht;exact⟨_,_,mk _ _ hw (λ_ _ h=>h) (by rw[ht.inv_v];exact .nolist _ _ _),hv⟩
 ·rename_i id x n' lo hi e1;rw[e1]at ht;split at hv
  ·rename_i x' el n'' es hH;obtain⟨hxe,rfl,hk⟩:=hv;subst hxe;split at hk
   ·obtain⟨rfl,hk⟩:=hk;obtain⟨r1,r2,r3⟩:=qpo hw hH ht;exact⟨_,_,mk _ _ r2 r3 (.own _ _ r1),hk _⟩
   ·have hm:=hw.drop id;exact⟨_,_,mk _ _ hm.1 hm.2 (qjF hw hH (SH hw hH) ht),hk⟩
  ·exact hv.elim
 ·rename_i cs e1;rw[e1]at ht;obtain⟨xs,hx,hl,hc⟩:=ht.inv_agg;obtain⟨cs',H',s1,m1,l1,c1,k1⟩:=Ze cs H _ xs hw hl hc hv;refine⟨_,_,mk _ _ s1 m1 ?_,k1⟩;rw[hx];refine .agg xs cs' l1 (λx hx'=>?_) (λk x c h1 h2=>(c1 k x c h1 h2).2);obtain⟨k,hk⟩:=qAp.1 hx';have hlt:k<cs'.length:=by rw[<-l1];exact(qzV.1 hk).1
  exact(c1 k x _ hk (qzX hlt)).1
 ·exact⟨_,_,⟨hd,hN,tp,hw,hr⟩,hv⟩
def QF{ops:Array Oper}{j s:Nat}{t:Bool}(hr:R tp I w (a.tmps.getD s undef) (.v (.bool t)))(hj:(ops[j]?).bind (·.dst)=some s):yielded ops a.tmps j=some t:=by
 have h:=hr.inv_v;unfold yielded;rw[hj];simp only[qAh];rw[qAv]at h;cases hq:a.tmps[s]? with
 |none=>rw[hq]at h;simp[undef]at h
 |some q=>rw[hq]at h;simp at h;subst h;rfl
def N7{ops:Array Oper}{j s:Nat}(hr:R tp I w (a.tmps.getD s undef) .undef)(hj:(ops[j]?).bind (·.dst)=some s):yielded ops a.tmps j=none:=by
 have h:a.tmps.getD s undef=undef:=by
  generalize a.tmps.getD s undef=q at hr;cases hr;rfl
 unfold yielded;rw[hj];simp only[qAh];rw[qAv]at h;cases hq:a.tmps[s]? with
 |none=>rfl
 |some q=>rw[hq]at h;simp at h;subst h;rfl
def Fw{s:Nat}{d:D}(h:σ s=d):upd σ s d=σ:=by
 funext t;unfold upd;split
 ·rename_i e;rw[e,h]
 ·rfl
theorem BM{ops:Array Oper}{o:Oper}{g:Option (Nat×Bool)}{yes no:Sg->Prop}(hg:GB ops o=some g)(hr:∀t,R tp I w (a.tmps.getD t undef) (σ t))(hv:mV g σ yes no):
 (Region.wanted o (yielded ops a.tmps)=true/\yes σ)\/(Region.wanted o (yielded ops a.tmps)=false/\no σ):=by
 unfold GB at hg;cases ho:o.guard with
 | none=>
   rw[ho]at hg;simp at hg;subst hg;exact .inl ⟨by simp[Region.wanted,ho],hv⟩
 | some jb=>
   obtain⟨j,b⟩:=jb;rw[ho]at hg;obtain⟨s,hs,rfl⟩:=aN hg;simp only[mV]at hv;have hrs:=hr s;split at hv
   ·rename_i t e1;rw[e1]at hrs;have hy:=QF hrs hs;cases hb:(t==b)with
    | true=>
      have:t=b:=by simpa using hb
      subst this;refine .inl ⟨by simp[Region.wanted,ho,hy],?_⟩;have:=hv.1 rfl;rwa [Fw e1]at this
    | false=>
      have hne:t=(!b):=by cases t<;>cases b<;>simp_all
      refine .inr ⟨by simp only[Region.wanted,ho,hy,hne];cases b<;>rfl,?_⟩;have:=hv.2 hne;rw[<-hne,Fw e1]at this;exact this
   ·rename_i e1;rw[e1]at hrs;have hy:=N7 hrs hs;exact .inr ⟨by simp[Region.wanted,ho,hy],hv⟩
   ·exact hv.elim
def St.skip(hst:St E σ H a w)(dst:Option Nat)(hdst:∀t,dst=some t->t<E.N):St E (fq σ dst .undef) H (a.put dst undef) w:=by
 obtain⟨hd,hN,tp,hw,hr⟩:=hst;exact St.put hd hN hr ⟨hw,λ_ _ h=>h⟩ dst hdst .undef
def qgF{N:Nat}{o:Oper}(h:o.dst.all (· < N)=true):∀t,o.dst=some t->t<N:=by
 intro t ht;rw[ht]at h;simpa using h
theorem Pw{ops:Array Oper}{Q:Exit->Act->World->Prop}{K:Sg->ab->Prop}{z:List PanicEntry->Prop}(hpan:∀c a w',a.defers=E.ds->ZE E z c w'->Q (.panic c) a w')(hQ:∀σ H a w,St E σ H a w->K σ H->Q .normal a w):
 ∀(cis:List CI) (hS:∀x∈cis,dG E.dq P z S x) (l:List Oper),l.mapM (eQ P im E.N ops)=some (cis.filter CI.real)->∀(σ:Sg) (H:ab) (a:Act) (w:World),St E σ H a w->DU S cis σ H K->wpList P ops Q l a w:=by
 intro cis
 induction cis with
 | nil=>
   intro hS l hl σ H a w hst hv;cases l with
   |nil=>exact hQ σ H a w hst hv
   | cons o l=>
     rw[qAC]at hl;simp only[qzW,qzU,List.filter_nil]at hl;obtain⟨x,_,y,_,h⟩:=hl;cases h
 | cons x cis ih=>
   intro hS l hl σ H a w hst hv;have ih:=ih λx hx=>hS x (by simp[hx])
   have hS0:=hS _ (qCs ..);cases x with
   | frz t n=>
     simp only[DU]at hv;obtain⟨σ',H',hst',hv'⟩:=Qj hst hv;exact ih l (by simpa [qBc,CI.real]using hl) σ' H' a w hst' hv'
   | op dst g c=>
     cases l with
     |nil=>simp[qBc,CI.real]at hl
     | cons o l=>
       rw[qAC]at hl;simp only[qzW,qzU,qBc,CI.real,if_true]at hl;obtain⟨x,hx,y,hy,h⟩:=hl;cases h;unfold eQ at hx;simp only[qzW,qzU]at hx;obtain⟨c',hc,g',hg,hx⟩:=hx;split at hx
       ·rename_i hdst;cases hx;have hdst:=qgF hdst;have hst0:=hst;obtain⟨hd,hN,tp,hw,hr⟩:=hst;simp only[DU]at hv;unfold wpList;rcases BM hg hr hv with⟨hwant,hyes⟩|⟨hwant,hno⟩
        ·rw[if_pos hwant];exact .inl (Ja hS0 hc hw hd hN hr hdst hyes (λc w'=>hpan c a w' hd) (λr H' x w' hk hst'=>ih l hy _ _ _ _ hst' hk))
        ·rw[if_neg (by simp[hwant])];exact ih l hy _ _ _ _ (hst0.skip o.dst hdst) hno
       ·cases hx
end
end Go.Gv
namespace Go.Gv
def COp.ops:COp->List Operand
 | .mv x| .box _ _ x| .tbx _ x| .load _ _ x| .nilck x| .not x| .neg x| .conv _ x| .faddr _ x| .fld _ _ _ x| .ext x _| .len x| .slen x=>[x]
 | .pick c x y=>[c,x,y]
 | .alloc _ _| .nslice _ _| .bad=>[]
 | .build _ ps=>ps.map (·.2.2)
 | .bslice _ _ ps=>ps
 | .mslice _ _ ps=>ps
 | .store _ _ x y| .arith _ x y| .cmp _ x y| .eql _ _ _ x y| .scat x y| .iaddr _ x y| .sidx x y| .append _ _ _ _ x y=>[x,y]
 | .clo _ xs| .mm _ xs| .call _ xs| .callb _ _ xs=>xs
 | .appmk _ _ _ _ _ x y| .copy _ x y=>[x,y]
 | .clear _ _ _ x| .cap x| .srange x| .snext x| .sbytes x| .srunes x| .bstr x| .rstr x| .mkif _ x=>[x]
 | .mkslice _ _ _ _ _ l c=>[l,c]
 | .slice _ x lo hi| .sslice x lo hi=>x::lo.toList++hi.toList
 | .callv f xs=>f::xs
 | .m _ xs=>xs
def qro(A:PT):Prop:=∃(p:List D->Prop) (o:Nat->List D->D->Res->Prop),∀(t:Nat) (ds:List D) (H:ab) (K:D->ab->Prop),A t ds H K↔ (p ds/\∀d u,o t ds d u->K d (ai H t (some u)))
def YN(dst:Option Nat)(s:Spc)(args:List D)(H:ab)(K:D->ab->Prop):Prop:=match s with
 | .pure pc=>pc.pre args/\∀r,pc.post args r->K r H
 | .gen A _=>match dst with
   |some t=>qro A/\A t args H K
   |none=>False
 | .none=>False
def SA(i:Nat):Nat:=if 990<=i/\i< 1000 then 0 else i
def Dt(wid:Option Nat)(i:Nat):Prop:=match wid with|some t=>SA i=SA t|none=>False
instance (wid:Option Nat) (i:Nat):Decidable (Dt wid i):=by unfold Dt;split<;>infer_instance
def uB(H:ab)(wid:Option Nat):ab:=λi=>if Dt wid i then H i else none
def jV(H:ab)(wid:Option Nat)(u:List (Nat×Res)):ab:=λi=>if Dt wid i then(match u.lookup i with|some r=>some r|none=>H i)else H i
def qnN(r:Nat)(A:PT)(args:List D):Prop:=∃(p:ab->Prop) (o:ab->D->List (Nat×Res)->Prop),∀(t:Nat) (H:ab) (K:D->ab->Prop),A t args H K↔ (p (uB H (some r))/\∀d u,o (uB H (some r)) d u->K d (jV H (some r) u))
def PU(r:Nat)(dst:Option Nat)(s:Spc)(args:List D)(H:ab)(K:D->ab->Prop):Prop:=match s with
 | .gen A _=>qnN r A args/\A (dst.getD 0) args H K
 | _=>False
def ax(S:Nat->Spc)(c:COp)(dst:Option Nat)(σ:Sg)(Hr H:ab)(K:D->ab->Prop):Prop:=
 match c with
 | .call f args=>YN dst (S f) (args.map (ev σ)) H K
 | .callb r f args=>PU r dst (S f) (args.map (ev σ)) H K
 | .callv f args=>match ev σ f with
   | .clo g caps=>match S g with
     | .pure pc=>pc.pre (args.map (ev σ) ++caps)/\∀r,pc.post (args.map (ev σ) ++caps) r->K r H
     | _=>False
   | _=>False
 | .alloc el z=>bk (.alloc el z) dst σ H K
 | .box el false x=>bk (.box el false x) dst σ H K
 | .tbx el x=>bk (.tbx el x) dst σ H K
 | .nslice el n=>bk (.nslice el n) dst σ H K
 | .mslice el n ps=>bk (.mslice el n ps) dst σ H K
 | .mkslice el n b agg z l c=>bk (.mkslice el n b agg z l c) dst σ H K
 | .append rt el n b x y=>vM n (ev σ y) Hr λes2=>match rt with
   | none=>match dst,ev σ x with
     |some t, .v (.slice none 0 0)=>es2.length*b<=140737488355328/\es2.length<=140737488355328/\∀v,K (.own t v) (ai H t (some (.row v el n es2)))
     | _,_=>False
   | some r=>match ev σ x with
     | .own id x=>id=r/\match H r with
       |some (.row x' el' n' es)=>x'=x/\el'=el/\n'=n/\(es.length+es2.length) *b<=140737488355328/\es.length+es2.length<=140737488355328/\∀v,K (.own r v) (ai H r (some (.row v el n (es++es2))))
       | _=>False
     | _=>False
 | .store rt sz x y=>(ev σ y).kn=true/\(ev σ y).cells.length=sz/\match rt with
   |none=>False
   | some r=>match ev σ x with
     | .bptr id b off=>id=r/\match H r with
       |some (.box b' cells)=>b'=b/\off+sz<=cells.length/\K .undef (ai H r (some (.box b' (setAt cells off (ev σ y).cells))))
       | _=>False
     | .eptr id x n i off=>id=r/\match H r with
       | some (.row x' el n' es)=>x'=x/\n'=n/\0<n/\off+sz<=n/\i<es.length/\∀d,es[i]? =some d->
          K .undef (ai H r (some (.row x' el n' (es.set i (if off=0/\sz=n then ev σ y else .agg (setAt d.cells off (ev σ y).cells))))))
       | _=>False
     | _=>False
 | .clear .. | .copy .. | .srange .. | .snext .. =>False
 | .appmk el n b agg z x c=>bk (.appmk el n b agg z x c) dst σ H K
 | .m .mk xs=>bk (.m .mk xs) dst σ H K
 |c=>aj c σ Hr λd=>K d H
def COp.wid(c:COp)(dst:Option Nat):Option Nat:=
 match c with
 | .append (some r) _ _ _ _ _=>some r
 | .store (some r) _ _ _=>some r
 | .callb r _ _=>some r
 | _=>dst
def CI.wid:CI->Option Nat
 | .op d _ c=>c.wid d
 | .frz _ _=>none
def bD:List CI->ab->ab
 | [],H=>H
 | .frz _ _::_,H=>H
 | .op d g c::l,H=>λi=>if Dt (CI.op d g c).wid i then none else bD l H i
def kC(S:Nat->Spc):List CI->Sg->ab->ab->(Sg->ab->Prop)->Prop
 | [],σ,_,H,K=>K σ H
 | .frz _ _::r,σ,Hr,H,K=>kC S r σ (bD r Hr) H K
 | .op dst g c::r,σ,Hr,H,K=>mV g σ (λσ=>ax S c dst σ Hr H λd H'=>kC S r (fq σ dst d) Hr H' K) (λσ=>kC S r (fq σ dst .undef) Hr H K)
def OL(S:Nat->Spc)(x:CI)(σ:Sg)(Hr H:ab)(K:D->ab->Prop):Prop:=
 match x with
 | .frz _ _=>False
 | .op dst g c=>match g with
   |none=>ax S c dst σ Hr H K
   | some (s,b)=>match σ s with
     | .v (.bool t)=>(t=b->ax S c dst σ Hr H K)/\(t=(!b)->K .undef H)
     | .undef=>K .undef H
     | _=>False
def CI.dst:CI->Option Nat
 | .op d _ _=>d
 | .frz _ _=>none
def qhR(S:Nat->Spc):List (CI×ab)->Sg->ab->(Sg->ab->Prop)->Prop
 | [],σ,H,K=>K σ H
 |x::r,σ,H,K=>OL S x.1 σ x.2 H λd H'=>qhR S r (fq σ x.1.dst d) H' K
def Tv(F:(D->Prop)->Prop):Prop:=∃(pre:Prop) (out:D->Prop),∀K,F K↔ (pre/\∀d,out d->K d)
def bp(d:D):Tv λK=>K d:=⟨True,λe=>e=d,λK=>⟨λh=>⟨trivial,λe he=>he ▸h⟩,λh=>h.2 d rfl⟩⟩
def fR:Tv λ_=>False:=⟨False,λ_=>True,λK=>⟨λh=>h.elim,λh=>h.1⟩⟩
def aw{A:Prop}{F:(D->Prop)->Prop}(h:Tv F):Tv λK=>A/\F K:=by
 obtain⟨pre,out,h⟩:=h;exact⟨A/\pre,out,λK=>by dsimp only;rw[h K,and_assoc]⟩
def kj{A:Prop}{F:(D->Prop)->Prop}(h:Tv F):Tv λK=>A->F K:=by
 obtain⟨pre,out,h⟩:=h;refine⟨A->pre,λd=>A/\out d,λK=>?_⟩;constructor
 ·intro hf;exact⟨λha=>((h K).1 (hf ha)).1,λd hd=>((h K).1 (hf hd.1)).2 d hd.2⟩
 ·intro hf ha;exact(h K).2 ⟨hf.1 ha,λd hd=>hf.2 d ⟨ha,hd⟩⟩
def tE{α:Type}{F:α->(D->Prop)->Prop}(h:∀x,Tv (F x)):Tv λK=>∀x,F x K:=by
 have h':∀x,∃(p:Prop× (D->Prop)),∀K,F x K↔ (p.1/\∀d,p.2 d->K d):=λx=>by
  obtain⟨pre,out,hx⟩:=h x;exact⟨(pre,out),hx⟩
 obtain⟨p,hp⟩:=qBS h';refine⟨∀x,(p x).1,λd=>∃x,(p x).2 d,λK=>?_⟩;constructor
 ·intro hf;exact⟨λx=>((hp x K).1 (hf x)).1,λd ⟨x,hx⟩=>((hp x K).1 (hf x)).2 d hx⟩
 ·intro hf x;exact(hp x K).2 ⟨hf.1 x,λd hd=>hf.2 d ⟨x,hd⟩⟩
def VW{F G:(D->Prop)->Prop}(h1:Tv F)(h2:Tv G):Tv λK=>F K/\G K:=by
 obtain⟨p1,o1,h1⟩:=h1;obtain⟨p2,o2,h2⟩:=h2;refine⟨p1/\p2,λd=>o1 d\/o2 d,λK=>?_⟩;dsimp only;rw[h1 K,h2 K];constructor
 ·rintro⟨⟨a,b⟩,c,d⟩;exact⟨⟨a,c⟩,λe he=>he.elim (b e) (d e)⟩
 ·rintro⟨⟨a,c⟩,b⟩;exact⟨⟨a,λe he=>b e (.inl he)⟩,c,λe he=>b e (.inr he)⟩
def Qa(σ:Sg):∀(ps:List (Nat×Nat×Operand)) (cs:List D),Tv λK=>kA σ ps cs λcs=>K (.agg cs)
 | [],cs=>bp _
 |(off,sz,x)::r,cs=>aw (aw (Qa σ r _))
def qct(op:BinOp)(k:IntKind)(a b:Int):Tv λK=>gQ op k a b K:=by
 cases op<;>simp only[gQ] <;>first
  |exact fR
  |exact bp _
  |exact aw (bp _)
  |exact aw (aw (bp _))
def Sr(lo hi:Option (Option (IntKind×Int)))(len:Nat)(f:Nat->Nat->D):Tv λK=>pY lo hi len λl h=>K (f l h):=by
 unfold pY;split<;>first
  |exact bp _
  |exact aw (aw (bp _))
  |exact aw (aw (aw (bp _)))
  |exact fR
def qaI{d:D}{H:ab}{F:List D->(D->Prop)->Prop}(h:∀es,Tv (F es)):Tv λK=>Gs d H λes=>F es K:=by
 unfold Gs;split
 ·exact h _
 ·exact h _
 ·split
  ·exact aw (h _)
  ·exact fR
 ·exact fR
def qaH(o:MOp)(ds:List D)(H:ab):Tv λK=>yd o ds H K:=by
 unfold yd;split
 ·exact qaI λes=>aw (aw (VW (tE λk'=>tE λv=>kj (kj (bp _))) (kj (bp _))))
 ·exact qaI λes=>bp _
 ·split
  ·exact aw (aw (bp _))
  ·unfold Du;split
   ·split
    ·exact aw (aw (aw (aw (aw (tE λ_=>tE λ_=>kj (kj (bp _)))))))
    ·exact aw (aw (aw (aw fR)))
   ·exact aw (aw fR)
  ·exact aw fR
 ·refine aw (aw ?_);unfold qgn;split<;>first|exact bp _|exact fR
 ·exact fR
theorem VV(c:COp)(σ:Sg)(Hr:ab):Tv λK=>aj c σ Hr K:=by
 unfold aj;split<;>first
  |exact bp _
  |exact fR
  |exact Qa σ _ _
  |exact aw (bp _)
  |skip
 all_goals
  (repeat' split)<;>first
    |exact bp _
    |exact fR
    |exact VW (kj (bp _)) (kj (bp _))
    |exact aw (bp _)
    |exact aw (aw (bp _))
    |exact aw (aw (aw (bp _)))
    |exact aw (aw (aw (aw (bp _))))
    |exact aw (aw (aw (aw (tE λ_=>kj (bp _)))))
    |exact aw (aw (aw (tE λ_=>kj (bp _))))
    |exact aw (aw (tE λ_=>kj (bp _)))
    |exact aw (qct _ _ _ _)
    |exact kj (bp _)
    |exact aw (kj (bp _))
    |exact aw fR
    |exact aw (aw (Sr _ _ _ _))
    |exact aw (Sr _ _ _ _)
    |exact Sr _ _ _ λ_ _=>_
    |exact qaH _ _ _
    |skip
def wn(H:ab)(dst:Option Nat)(u:Option Res):ab:=
 match dst,u with
 |some t,some r=>ai H t (some r)
 | _,_=>H
def LinU0(dst:Option Nat)(F:ab->(D->ab->Prop)->Prop):Prop:=
 ∃(pre:Prop) (out:D->Option Res->Prop),∀H K,F H K↔ (pre/\∀d u,out d u->K d (wn H dst u))
def Kf(H:ab):Option Nat->Option Res
 |some t=>H t
 |none=>none
def LinU1(wid:Option Nat)(F:ab->(D->ab->Prop)->Prop):Prop:=
 ∀r0,∃(pre:Prop) (out:D->Option Res->Prop),∀H,Kf H wid=r0->∀K,F H K↔ (pre/\∀d u,out d u->K d (wn H wid u))
def LinU0.lin1{dst:Option Nat}{F:ab->(D->ab->Prop)->Prop}(h:LinU0 dst F):LinU1 dst F:=λ_=>by
 obtain⟨pre,out,h⟩:=h;exact⟨pre,out,λH _ K=>h H K⟩
def NT(H:ab)(dst:Option Nat):wn H dst none=H:=by cases dst<;>rfl
def Ss{dst:Option Nat}{G:(D->Prop)->Prop}(h:Tv G):LinU0 dst λH K=>G λd=>K d H:=by
 obtain⟨pre,out,h⟩:=h;refine⟨pre,λd u=>out d/\u=none,λH K=>?_⟩;dsimp only;rw[h];constructor
 ·rintro⟨a,b⟩;exact⟨a,λd u ⟨h1,h2⟩=>by subst h2;rw[NT];exact b d h1⟩
 ·rintro⟨a,b⟩;exact⟨a,λd h1=>by have:=b d none ⟨h1,rfl⟩;rwa [NT]at this⟩
def aF(dst:Option Nat):LinU0 dst λ_ _=>False:=⟨False,λ_ _=>True,λ_ _=>⟨λh=>h.elim,λh=>h.1⟩⟩
def oQ{t:Nat}{α:Type}{A:Prop}(f:α->D)(r:α->Res):LinU0 (some t) λH K=>A/\∀b,K (f b) (ai H t (some (r b))):=by
 refine⟨A,λd u=>∃b,d=f b/\u=some (r b),λH K=>?_⟩;constructor
 ·rintro⟨a,h⟩;exact⟨a,λd u ⟨b,h1,h2⟩=>by subst h1;subst h2;exact h b⟩
 ·rintro⟨a,h⟩;exact⟨a,λb=>h _ _ ⟨b,rfl,rfl⟩⟩
def LinU0.congr{dst:Option Nat}{F G:ab->(D->ab->Prop)->Prop}(h:LinU0 dst F)(hfg:∀H K,G H K↔F H K):LinU0 dst G:=by
 obtain⟨pre,out,h⟩:=h;exact⟨pre,out,λH K=>(hfg H K).trans (h H K)⟩
def iO{S:Nat->Spc}{c:COp}{dst:Option Nat}{σ:Sg}{Hr H:ab}{K:D->ab->Prop}(h:c.isRead=true):ax S c dst σ Hr H K↔aj c σ Hr λd=>K d H:=by
 cases c<;>first|exact qAY|(simp[COp.isRead]at h;done)|skip
 ·rename_i el im x;cases im
  ·simp[COp.isRead]at h
  ·exact qAY
 ·rename_i mo xs;cases mo<;>first|(simp[COp.isRead,MOp.isRead]at h;done)|exact qAY
def qfH{dst:Option Nat}{n:Nat}{d:D}{Hr:ab}{F:List D->ab->(D->ab->Prop)->Prop}(h:∀es,LinU0 dst (F es)):LinU0 dst λH K=>kD n d Hr λes=>F es H K:=by
 have conj:∀{A:Prop} {G:ab->(D->ab->Prop)->Prop},LinU0 dst G->LinU0 dst λH K=>A/\G H K:=λ{A G} h=>by
  obtain⟨pre,out,h⟩:=h;exact⟨A/\pre,out,λH K=>by dsimp only;rw[h H K,and_assoc]⟩
 unfold kD;split
 ·exact conj (h _)
 ·split
  ·exact conj (conj (h _))
  ·exact aF _
 ·exact h _
 ·split
  ·exact conj (conj (conj (h _)))
  ·exact aF _
 ·exact aF _
def qcu{dst:Option Nat}{n:Nat}{d:D}{Hr:ab}{F:List D->ab->(D->ab->Prop)->Prop}(h:∀es,LinU0 dst (F es)):LinU0 dst λH K=>vM n d Hr λes=>F es H K:=by
 unfold vM;split
 ·rename_i s;obtain⟨pre,out,h⟩:=h (FI s);exact⟨n=1/\pre,out,λH K=>by dsimp only;rw[h H K,and_assoc]⟩
 ·exact qfH h
theorem qfI{wid:Option Nat}{n:Nat}{d:D}{Hr:ab}{r0:Option Res}{F:List D->ab->(D->ab->Prop)->Prop}
 (h:∀es,∃(pre:Prop) (out:D->Option Res->Prop),∀H,Kf H wid=r0->∀K,F es H K↔ (pre/\∀d u,out d u->K d (wn H wid u))):
 ∃(pre:Prop) (out:D->Option Res->Prop),∀H,Kf H wid=r0->∀K,(kD n d Hr λes=>F es H K) ↔ (pre/\∀d u,out d u->K d (wn H wid u)):=by
 have conj:∀{A:Prop} {G:ab->(D->ab->Prop)->Prop},(∃(pre:Prop) (out:D->Option Res->Prop),∀H,Kf H wid=r0->∀K,G H K↔ (pre/\∀d u,out d u->K d (wn H wid u)))->
  ∃(pre:Prop) (out:D->Option Res->Prop),∀H,Kf H wid=r0->∀K,(A/\G H K) ↔ (pre/\∀d u,out d u->K d (wn H wid u)):=λ{A G} h=>by
  obtain⟨pre,out,h⟩:=h;exact⟨A/\pre,out,λH hr K=>by rw[h H hr K,and_assoc]⟩
 have no:∃(pre:Prop) (out:D->Option Res->Prop),∀H,Kf H wid=r0->∀K:D->ab->Prop,False↔ (pre/\∀d u,out d u->K d (wn H wid u)):=⟨False,λ_ _=>True,λ_ _ _=>⟨λh=>h.elim,λh=>h.1⟩⟩
 unfold kD;split
 ·exact conj (h _)
 ·split
  ·exact conj (conj (h _))
  ·exact no
 ·exact h _
 ·split
  ·exact conj (conj (conj (h _)))
  ·exact no
 ·exact no
def qcx{wid:Option Nat}{n:Nat}{d:D}{Hr:ab}{r0:Option Res}{F:List D->ab->(D->ab->Prop)->Prop}
 (h:∀es,∃(pre:Prop) (out:D->Option Res->Prop),∀H,Kf H wid=r0->∀K,F es H K↔ (pre/\∀d u,out d u->K d (wn H wid u))):
 ∃(pre:Prop) (out:D->Option Res->Prop),∀H,Kf H wid=r0->∀K,(vM n d Hr λes=>F es H K) ↔ (pre/\∀d u,out d u->K d (wn H wid u)):=by
 unfold vM;split
 ·rename_i s;obtain⟨pre,out,h⟩:=h (FI s);exact⟨n=1/\pre,out,λH hr K=>by dsimp only;rw[h H hr K,and_assoc]⟩
 ·exact qfI h
theorem qcw(S:Nat->Spc)(c:COp)(dst:Option Nat)(σ:Sg)(Hr:ab)(hna:∀r el n b x y,c≠ .append (some r) el n b x y)(hns:∀r sz x y,c≠ .store (some r) sz x y)(hnb:∀r f args,c≠ .callb r f args):LinU0 dst λH K=>ax S c dst σ Hr H K:=by
 by_cases hro:c.isRead=true
 ·exact(Ss (VV c σ Hr)).congr λH K=>iO hro
 cases c
 case call f args=>
  simp only[ax];cases S f with
  |pure pc=>exact Ss (G:=λK=>pc.pre (args.map (ev σ))/\∀r,pc.post (args.map (ev σ)) r->K r) (aw (tE λr=>kj (bp r)))
  |none=>exact aF dst
  | gen A hA=>
    cases dst with
    |none=>exact aF none
    | some t=>
      by_cases hf:qro A
      ·obtain⟨p,o,h⟩:=id hf;refine⟨p (args.map (ev σ)),λd u=>∃u',u=some u'/\o t (args.map (ev σ)) d u',λH K=>?_⟩;simp only[YN];rw[h t];constructor
       ·rintro⟨_,a,b⟩;exact⟨a,λd u ⟨u',e,h1⟩=>by subst e;exact b d u' h1⟩
       ·rintro⟨a,b⟩;exact⟨hf,a,λd u h1=>b d (some u) ⟨u,rfl,h1⟩⟩
      ·exact(aF (some t)).congr λH K=>⟨λh=>hf h.1,λh=>h.elim⟩
 case callb r f args=>exact absurd rfl (hnb r f args)
 case callv f args=>
  simp only[ax];split
  ·rename_i g caps _;split
   ·rename_i pc _;exact Ss (G:=λK=>pc.pre (args.map (ev σ) ++caps)/\∀r,pc.post (args.map (ev σ) ++caps) r->K r) (aw (tE λr=>kj (bp r)))
   ·exact aF dst
  ·exact aF dst
 case alloc el z=>
  cases dst with
  |none=>simp only[ax,bk];exact aF _
  |some t=>exact(oQ (t:=t) (A:=True) (λb=>D.bptr t b 0) (λb=>Res.box b (z.map qH))).congr (λH K=>by simp only[ax,bk,true_and])
 case box el im x=>
  cases im with
  |true=>exact absurd rfl hro
  | false=>
    cases dst with
    |none=>simp only[ax,bk];exact aF _
    |some t=>exact(oQ (t:=t) (A:=(ev σ x).kn=true) (λb=>D.bptr t b 0) (λb=>Res.box b (ev σ x).cells)).congr (λH K=>by simp only[ax,bk])
 case tbx el x=>
  cases dst with
  |none=>simp only[ax,bk];exact aF _
  |some t=>exact(oQ (t:=t) (A:=(ev σ x).kn=true) (λb=>D.bptr t b 0) (λb=>Res.tbox el b (ev σ x).cells)).congr (λH K=>by simp only[ax,bk])
 case nslice el n=>
  cases dst with
  |none=>simp only[ax,bk];exact aF _
  |some t=>exact(oQ (t:=t) (A:=True) (λx=>D.own t x) (λx=>Res.row x el n [])).congr (λH K=>by simp only[ax,bk,true_and])
 case mslice el n ps=>
  cases dst with
  |none=>simp only[ax,bk];exact aF _
  |some t=>exact(oQ (t:=t) (A:=kg n (ps.map (ev σ))) (λx=>D.own t x) (λx=>Res.row x el n (ps.map (ev σ)))).congr (λH K=>by simp only[ax,bk])
 case mkslice el n b agg z l cc=>
  cases dst with
  |none=>simp only[ax,bk];exact aF _
  | some t=>
    simp only[ax,bk];split
    ·rename_i e1 e2;rename_i k1 l' k2 c';exact(oQ (t:=t) (A:=0<=l'/\l'<=c'/\b*c'<=140737488355328/\c'<=140737488355328) (λx=>D.own t x) (λx=>Res.row x el n (List.replicate l'.toNat (if agg then .agg (z.map qH)else qH (z.headD (.bool false)))))).congr (λH K=>by simp only[and_assoc])
    ·exact aF _
 case store rt sz x y=>
  cases rt with
  |some r=>exact absurd rfl (hns r sz x y)
  |none=>exact(aF dst).congr λH K=>⟨λh=>h.2.2.elim,λh=>h.elim⟩
 case srange x=>exact aF dst
 case snext x=>exact aF dst
 case append rt el n b x y=>
  cases rt with
  |some r=>exact absurd rfl (hna r el n b x y)
  | none=>
    simp only[ax];refine qcu λes2=>?_
    split
    ·rename_i t _;exact(oQ (t:=t) (A:=es2.length*b<=140737488355328/\es2.length<=140737488355328) (λv=>D.own t v) (λv=>Res.row v el n es2)).congr (λH K=>by simp only[and_assoc])
    ·exact aF _
 case clear n agg z x=>exact aF dst
 case copy n x y=>exact aF dst
 case appmk el n b agg z x c=>
  simp only[ax,bk];split
  ·cases dst with
   |none=>exact aF _
   | some t=>
     cases hc:mC (ev σ c)with
     |none=>exact aF _
     | some p=>
       obtain⟨k,c'⟩:=p;exact(oQ (t:=t) (A:=0<=c'/\c'*b<=140737488355328/\c'<=140737488355328) (λx=>D.own t x) (λx=>Res.row x el n (List.replicate c'.toNat (Tz agg z)))).congr (λH K=>by simp only[and_assoc])
  ·exact aF _
 case m mo xs=>
  cases mo
  case mk=>
   cases xs with
   | nil=>
     cases dst with
     |none=>exact aF _
     |some t=>exact(oQ (t:=t) (A:=True) (λx=>D.own t x) (λx=>Res.mrow x [])).congr (λH K=>by simp only[ax,bk,gM,qBb,true_and])
   |cons x xs=>exact(aF dst).congr λH K=>qAY
  case upd=>exact(aF dst).congr λH K=>qAY
  case rng=>exact(aF dst).congr λH K=>qAY
  case next=>exact(aF dst).congr λH K=>qAY
  case del=>exact(aF dst).congr λH K=>qAY
  all_goals exact absurd rfl hro
 all_goals exact absurd rfl hro
def tW(H:ab)(wid:Option Nat):jV H wid []=H:=by
 funext i;simp only[jV,List.lookup];split<;>rfl
def qhn(H:ab)(t:Nat)(r:Res):jV H (some t) [(t,r)]=ai H t (some r):=by
 funext i;simp only[jV,ai];by_cases h:i=t
 ·subst h;rw[if_pos (show Dt (some i) i from rfl),if_pos rfl];simp[List.lookup]
 ·rw[if_neg h];have:([(t,r)]:List (Nat×Res)).lookup i=none:=by
   have e:(i==t)=false:=by simp[h]
   simp only[List.lookup,e]
  rw[this];split<;>rfl
def qku(wid:Option Nat)(F:ab->(D->ab->Prop)->Prop):Prop:=
 ∀r0,∃(pre:Prop) (out:D->List (Nat×Res)->Prop),∀H,uB H wid=r0->∀K,F H K↔ (pre/\∀d u,out d u->K d (jV H wid u))
def qya(R0:ab):Option Nat->Option Res
 |some t=>R0 t
 |none=>none
def qxY(wid:Option Nat)(u:Option Res):List (Nat×Res):=match wid,u with
 |some t,some r=>[(t,r)]
 | _,_=>[]
def qbg(H:ab)(wid:Option Nat)(u:Option Res):jV H wid (qxY wid u)=wn H wid u:=by
 cases wid with
 |none=>exact tW H none
 | some t=>cases u with
   |none=>exact tW H _
   |some r=>exact qhn H t r
def LinU1.lin{wid:Option Nat}{F:ab->(D->ab->Prop)->Prop}(h:LinU1 wid F):qku wid F:=λR0=>by
 obtain⟨pre,out,h⟩:=h (qya R0 wid);refine⟨pre,λd us=>∃u,out d u/\us=qxY wid u,λH hr K=>?_⟩;have h1:Kf H wid=qya R0 wid:=by
  cases wid with
  |none=>rfl
  | some t=>
    show H t=R0 t;rw[<-hr];simp only[uB];rw[if_pos (show Dt (some t) t from rfl)]
 rw[h H h1 K];refine and_congr_right λ_=>⟨λhk d us ⟨u,ho,e⟩=>?_,λhk d u ho=>?_⟩
 ·subst e;rw[qbg];exact hk d u ho
 ·have:=hk d _ ⟨u,ho,rfl⟩;rwa [qbg]at this
def LinU0.lin{dst:Option Nat}{F:ab->(D->ab->Prop)->Prop}(h:LinU0 dst F):qku dst F:=h.lin1.lin
theorem qcv(S:Nat->Spc)(c:COp)(dst:Option Nat)(σ:Sg)(Hr:ab)(hb:¬ ∃r f args,c= .callb r f args):LinU1 (c.wid dst) λH K=>ax S c dst σ Hr H K:=by
 by_cases h:∃r el n b x y,c= .append (some r) el n b x y
 ·obtain⟨r,el,n,b,x,y,rfl⟩:=h;intro r0;simp only[ax,COp.wid];refine qcx λes2=>?_
  cases ev σ x with
  | own id v=>
    cases r0 with
    | none=>
      refine⟨False,λ_ _=>True,λH hr K=>?_⟩;have hr:H r=none:=hr;rw[hr];exact⟨λh=>h.2.elim,λh=>h.1.elim⟩
    | some q=>
      cases q with
      | box b' cs=>
        refine⟨False,λ_ _=>True,λH hr K=>?_⟩;have hr:H r=some (.box b' cs):=hr;rw[hr];exact⟨λh=>h.2.elim,λh=>h.1.elim⟩
      | iter b' s' p'=>
        refine⟨False,λ_ _=>True,λH hr K=>?_⟩;have hr:H r=some (.iter b' s' p'):=hr;rw[hr];exact⟨λh=>h.2.elim,λh=>h.1.elim⟩
      | tbox b' s' p'=>
        refine⟨False,λ_ _=>True,λH hr K=>?_⟩;have hr:H r=some (.tbox b' s' p'):=hr;rw[hr];exact⟨λh=>h.2.elim,λh=>h.1.elim⟩
      | mrow x' es'=>
        refine⟨False,λ_ _=>True,λH hr K=>?_⟩;have hr:H r=some (.mrow x' es'):=hr;rw[hr];exact⟨λh=>h.2.elim,λh=>h.1.elim⟩
      | miter b' c' l'=>
        refine⟨False,λ_ _=>True,λH hr K=>?_⟩;have hr:H r=some (.miter b' c' l'):=hr;rw[hr];exact⟨λh=>h.2.elim,λh=>h.1.elim⟩
      | raw k'=>
        refine⟨False,λ_ _=>True,λH hr K=>?_⟩;have hr:H r=some (.raw k'):=hr;rw[hr];exact⟨λh=>h.2.elim,λh=>h.1.elim⟩
      | row x' el' n' es=>
        refine⟨id=r/\x'=v/\el'=el/\n'=n/\(es.length+es2.length) *b<=140737488355328/\es.length+es2.length<=140737488355328,λd u=>∃v,d= .own r v/\u=some (.row v el n (es++es2)),λH hr K=>?_⟩;have hr:H r=some (.row x' el' n' es):=hr;rw[hr];constructor
        ·rintro⟨h1,h2,h3,h4,h5,h6,h7⟩;exact⟨⟨h1,h2,h3,h4,h5,h6⟩,λd u ⟨v,e1,e2⟩=>by subst e1;subst e2;exact h7 v⟩
        ·rintro⟨⟨h1,h2,h3,h4,h5,h6⟩,h7⟩;exact⟨h1,h2,h3,h4,h5,h6,λv=>h7 _ _ ⟨v,rfl,rfl⟩⟩
  | _=>exact⟨False,λ_ _=>True,λH hr K=>⟨λh=>h.elim,λh=>h.1.elim⟩⟩
 ·by_cases hs:∃r sz x y,c= .store (some r) sz x y
  ·obtain⟨r,sz,x,y,rfl⟩:=hs;intro r0;simp only[ax,COp.wid];have no:∃(pre:Prop) (out:D->Option Res->Prop),∀H,Kf H (some r)=r0->∀K:D->ab->Prop,False↔ (pre/\∀d u,out d u->K d (wn H (some r) u)):=⟨False,λ_ _=>True,λ_ _ _=>⟨λh=>h.elim,λh=>h.1⟩⟩
   have conj:∀{A:Prop} {G:ab->(D->ab->Prop)->Prop},(∃(pre:Prop) (out:D->Option Res->Prop),∀H,Kf H (some r)=r0->∀K,G H K↔ (pre/\∀d u,out d u->K d (wn H (some r) u)))->
    ∃(pre:Prop) (out:D->Option Res->Prop),∀H,Kf H (some r)=r0->∀K,(A/\G H K) ↔ (pre/\∀d u,out d u->K d (wn H (some r) u)):=λ{A G} h=>by
    obtain⟨pre,out,h⟩:=h;exact⟨A/\pre,out,λH hr K=>by rw[h H hr K,and_assoc]⟩
   refine conj (conj ?_);cases ev σ x with
   | bptr id b off=>
     refine conj ?_;cases r0 with
     | none=>
       refine⟨False,λ_ _=>True,λH hr K=>?_⟩;have hr:H r=none:=hr;rw[hr];exact⟨λh=>h.elim,λh=>h.1.elim⟩
     | some q=>
       cases q with
       | box b' cs=>
         refine⟨b'=b/\off+sz<=cs.length,λd u=>d= .undef/\u=some (.box b' (setAt cs off (ev σ y).cells)),λH hr K=>?_⟩;have hr:H r=some (.box b' cs):=hr;rw[hr];constructor
         ·rintro⟨h1,h2,h3⟩;exact⟨⟨h1,h2⟩,λd u ⟨e1,e2⟩=>by subst e1;subst e2;exact h3⟩
         ·rintro⟨⟨h1,h2⟩,h3⟩;exact⟨h1,h2,h3 _ _ ⟨rfl,rfl⟩⟩
       | row x' el' n' es=>
         refine⟨False,λ_ _=>True,λH hr K=>?_⟩;have hr:H r=some (.row x' el' n' es):=hr;rw[hr];exact⟨λh=>h.elim,λh=>h.1.elim⟩
       | iter b' s' p'=>
         refine⟨False,λ_ _=>True,λH hr K=>?_⟩;have hr:H r=some (.iter b' s' p'):=hr;rw[hr];exact⟨λh=>h.elim,λh=>h.1.elim⟩
       | tbox b' s' p'=>
         refine⟨False,λ_ _=>True,λH hr K=>?_⟩;have hr:H r=some (.tbox b' s' p'):=hr;rw[hr];exact⟨λh=>h.elim,λh=>h.1.elim⟩
       | mrow x' es'=>
         refine⟨False,λ_ _=>True,λH hr K=>?_⟩;have hr:H r=some (.mrow x' es'):=hr;rw[hr];exact⟨λh=>h.elim,λh=>h.1.elim⟩
       | miter b' c' l'=>
         refine⟨False,λ_ _=>True,λH hr K=>?_⟩;have hr:H r=some (.miter b' c' l'):=hr;rw[hr];exact⟨λh=>h.elim,λh=>h.1.elim⟩
       | raw k'=>
         refine⟨False,λ_ _=>True,λH hr K=>?_⟩;have hr:H r=some (.raw k'):=hr;rw[hr];exact⟨λh=>h.elim,λh=>h.1.elim⟩
   | eptr id v n i off=>
     refine conj ?_;cases r0 with
     | none=>
       refine⟨False,λ_ _=>True,λH hr K=>?_⟩;have hr:H r=none:=hr;rw[hr];exact⟨λh=>h.elim,λh=>h.1.elim⟩
     | some q=>
       cases q with
       | row x' el' n' es=>
         refine⟨x'=v/\n'=n/\0<n/\off+sz<=n/\i<es.length,λd u=>d= .undef/\∃e,es[i]? =some e/\u=some (.row x' el' n' (es.set i (if off=0/\sz=n then ev σ y else .agg (setAt e.cells off (ev σ y).cells)))),λH hr K=>?_⟩;have hr:H r=some (.row x' el' n' es):=hr;rw[hr];constructor
         ·rintro⟨h1,h2,h3,h4,h5,h6⟩;exact⟨⟨h1,h2,h3,h4,h5⟩,λd u ⟨e1,e,e2,e3⟩=>by subst e1;subst e3;exact h6 e e2⟩
         ·rintro⟨⟨h1,h2,h3,h4,h5⟩,h6⟩;exact⟨h1,h2,h3,h4,h5,λe he=>h6 _ _ ⟨rfl,e,he,rfl⟩⟩
       | box b' cs=>
         refine⟨False,λ_ _=>True,λH hr K=>?_⟩;have hr:H r=some (.box b' cs):=hr;rw[hr];exact⟨λh=>h.elim,λh=>h.1.elim⟩
       | iter b' s' p'=>
         refine⟨False,λ_ _=>True,λH hr K=>?_⟩;have hr:H r=some (.iter b' s' p'):=hr;rw[hr];exact⟨λh=>h.elim,λh=>h.1.elim⟩
       | tbox b' s' p'=>
         refine⟨False,λ_ _=>True,λH hr K=>?_⟩;have hr:H r=some (.tbox b' s' p'):=hr;rw[hr];exact⟨λh=>h.elim,λh=>h.1.elim⟩
       | mrow x' es'=>
         refine⟨False,λ_ _=>True,λH hr K=>?_⟩;have hr:H r=some (.mrow x' es'):=hr;rw[hr];exact⟨λh=>h.elim,λh=>h.1.elim⟩
       | miter b' c' l'=>
         refine⟨False,λ_ _=>True,λH hr K=>?_⟩;have hr:H r=some (.miter b' c' l'):=hr;rw[hr];exact⟨λh=>h.elim,λh=>h.1.elim⟩
       | raw k'=>
         refine⟨False,λ_ _=>True,λH hr K=>?_⟩;have hr:H r=some (.raw k'):=hr;rw[hr];exact⟨λh=>h.elim,λh=>h.1.elim⟩
   | _=>exact no
  have hw:c.wid dst=dst:=by
   cases c
   case callb r f args=>exact absurd ⟨r,f,args,rfl⟩ hb
   case append rt el n b x y=>
    cases rt with
    |none=>rfl
    |some r=>exact absurd ⟨r,el,n,b,x,y,rfl⟩ h
   case store rt sz x y=>
    cases rt with
    |none=>rfl
    |some r=>exact absurd ⟨r,sz,x,y,rfl⟩ hs
   all_goals rfl
  rw[hw];exact(qcw S c dst σ Hr (λr el n b x y e=>h ⟨r,el,n,b,x,y,e⟩) (λr sz x y e=>hs ⟨r,sz,x,y,e⟩) (λr f args e=>hb ⟨r,f,args,e⟩)).lin1
theorem MY(S:Nat->Spc)(c:COp)(dst:Option Nat)(σ:Sg)(Hr:ab):qku (c.wid dst) λH K=>ax S c dst σ Hr H K:=by
 by_cases hb:∃r f args,c= .callb r f args
 ·obtain⟨r,f,args,rfl⟩:=hb;intro r0;simp only[ax,COp.wid];have no:∃(pre:Prop) (out:D->List (Nat×Res)->Prop),∀H,uB H (some r)=r0->∀K:D->ab->Prop,False↔ (pre/\∀d u,out d u->K d (jV H (some r) u)):=⟨False,λ_ _=>True,λ_ _ _=>⟨λh=>h.elim,λh=>h.1⟩⟩
  cases hs:S f with
  |none=>exact no
  |pure pc=>exact no
  | gen A hA=>
    by_cases hx:qnN r A (args.map (ev σ))
    ·obtain⟨p,o,h⟩:=id hx;refine⟨p r0,λd u=>o r0 d u,λH hr K=>?_⟩;simp only[PU];rw[h,hr];exact⟨λh=>h.2,λh=>⟨hx,h⟩⟩
    ·exact⟨False,λ_ _=>True,λH _ K=>⟨λh=>absurd h.1 hx,λh=>h.1.elim⟩⟩
 ·exact(qcv S c dst σ Hr hb).lin
theorem MZ(S:Nat->Spc)(x:CI)(σ:Sg)(Hr:ab):qku x.wid λH K=>OL S x σ Hr H K:=by
 cases x with
 |frz t n=>exact(aF _).lin
 | op dst g c=>
   intro r0;obtain⟨pre,out,h⟩:=MY S c dst σ Hr r0;have h':∀H,uB H (c.wid dst)=r0->∀K,ax S c dst σ Hr H K↔ (pre/\∀d u,out d u->K d (jV H (c.wid dst) u)):=h;cases g with
   |none=>exact⟨pre,out,h⟩
   | some sb=>
     obtain⟨s,b⟩:=sb;simp only[OL,CI.wid];split
     ·rename_i t e1;refine⟨t=b->pre,λd u=>(t=b/\out d u)\/(t=(!b)/\d= .undef/\u=[]),λH hr K=>?_⟩;rw[h' H hr K];constructor
      ·rintro⟨h1,h2⟩;refine⟨λe=>(h1 e).1,λd u hd=>?_⟩;rcases hd with⟨e,hd⟩|⟨e,rfl,rfl⟩
       ·exact(h1 e).2 d u hd
       ·rw[tW];exact h2 e
      ·rintro⟨h1,h2⟩;refine⟨λe=>⟨h1 e,λd u hd=>h2 d u (.inl ⟨e,hd⟩)⟩,λe=>?_⟩;have:=h2 .undef [] (.inr ⟨e,rfl,rfl⟩);rwa [tW]at this
     ·exact⟨True,λd u=>d= .undef/\u=[],λH _ K=>⟨λh=>⟨trivial,λd u ⟨h1,h2⟩=>by subst h1;subst h2;rw[tW];exact h⟩,λh=>by have:=h.2 .undef [] ⟨rfl,rfl⟩;rwa [tW]at this⟩⟩
     ·exact(aF _).lin r0
def Dz{σ σ':Sg} :∀(ps:List (Nat×Nat×Operand)) (cs:List D) (K:List D->Prop),(∀x∈ps.map (·.2.2),ev σ x=ev σ' x)->(kA σ ps cs K↔kA σ' ps cs K)
 | [],cs,K,_=>qAY
 | (off,sz,x)::r,cs,K,h=>by
  have hx:=h x (by simp);simp only[kA,hx];rw[Dz r _ K (λy hy=>h y (by simp at hy ⊢;exact .inr hy))]
theorem Ea{c:COp}{σ σ':Sg}{Hr:ab}{K:D->Prop}(h:∀x∈c.ops,ev σ x=ev σ' x):aj c σ Hr K↔aj c σ' Hr K:=by
 cases c
 case build z ps=>simp only[aj];exact Dz ps _ _ h
 case box el im x=>cases im<;>simp only[aj];rw[h x (by simp[COp.ops])]
 case bslice el n ps=>
  have h':∀x∈ps,ev σ x=ev σ' x:=h;simp only[aj];rw[qA2 h']
 case clo f caps=>
  have h':∀x∈caps,ev σ x=ev σ' x:=h;simp only[aj];rw[qA2 h']
 case slice n x lo hi=>
  simp only[aj];rw[h x (by simp[COp.ops])];have h1:lo.map (λo=>mC (ev σ o))=lo.map (λo=>mC (ev σ' o)):=by cases lo<;>simp;rw[h _ (by simp[COp.ops])]
  have h2:hi.map (λo=>mC (ev σ o))=hi.map (λo=>mC (ev σ' o)):=by cases hi<;>simp;rw[h _ (by simp[COp.ops])]
  rw[h1,h2]
 case sslice x lo hi=>
  simp only[aj];rw[h x (by simp[COp.ops])];have h1:lo.map (λo=>mC (ev σ o))=lo.map (λo=>mC (ev σ' o)):=by cases lo<;>simp;rw[h _ (by simp[COp.ops])]
  have h2:hi.map (λo=>mC (ev σ o))=hi.map (λo=>mC (ev σ' o)):=by cases hi<;>simp;rw[h _ (by simp[COp.ops])]
  rw[h1,h2]
 case m mo xs=>
  have h':∀x∈xs,ev σ x=ev σ' x:=h;simp only[aj];rw[qA2 h']
 case mm mx xs=>
  match xs with
  | []=>simp[aj]
  | [x]=>simp[aj]
  | [x,y]=>simp only[aj];rw[h x (by simp[COp.ops]),h y (by simp[COp.ops])]
  | [x,y,z]=>simp only[aj];rw[h x (by simp[COp.ops]),h y (by simp[COp.ops]),h z (by simp[COp.ops])]
  | _::_::_::_::_=>simp[aj]
 case pick q x y=>simp only[aj];rw[h q (by simp[COp.ops]),h x (by simp[COp.ops]),h y (by simp[COp.ops])]
 all_goals simp only[aj]
 all_goals first
  |(rename_i x;rw[h x (by simp[COp.ops])];done)
  |(rename_i x y;rw[h x (by simp[COp.ops]),h y (by simp[COp.ops])];done)
  |(rename_i x i;rw[h x (by simp[COp.ops])];done)
  |skip
theorem qb4{S:Nat->Spc}{c:COp}{dst:Option Nat}{σ σ':Sg}{Hr H:ab}{K:D->ab->Prop}(h:∀x∈c.ops,ev σ x=ev σ' x):ax S c dst σ Hr H K↔ax S c dst σ' Hr H K:=by
 cases c
 case call f args=>
  simp only[ax];rw[qA2 (λx hx=>h x (by simpa [COp.ops]using hx))]
 case callv f args=>
  simp only[ax];rw[h f (by simp[COp.ops]),qA2 (λx hx=>h x (by simp[COp.ops,hx]))]
 case callb r f args=>
  simp only[ax];rw[qA2 (λx hx=>h x (by simpa [COp.ops]using hx))]
 case alloc el z=>exact qAY
 case box el im x=>
  cases im with
  |true=>exact(iO rfl).trans ((Ea h).trans (iO rfl).symm)
  |false=>simp only[ax,bk];rw[h x (by simp[COp.ops])]
 case tbx el x=>simp only[ax,bk];rw[h x (by simp[COp.ops])]
 case nslice el n=>exact qAY
 case mslice el n ps=>
  have h':∀x∈ps,ev σ x=ev σ' x:=h;simp only[ax,bk];rw[qA2 h']
 case mkslice el n b agg z l cc=>simp only[ax,bk];rw[h l (by simp[COp.ops]),h cc (by simp[COp.ops])]
 case store rt sz x y=>simp only[ax];rw[h x (by simp[COp.ops]),h y (by simp[COp.ops])]
 case srange x=>exact qAY
 case snext x=>exact qAY
 case append rt el n b x y=>
  simp only[ax];rw[h x (by simp[COp.ops]),h y (by simp[COp.ops])]
 case clear n agg z x=>exact qAY
 case copy n x y=>exact qAY
 case appmk el n b agg z x c=>simp only[ax,bk];rw[h x (by simp[COp.ops]),h c (by simp[COp.ops])]
 case m mo xs=>
  have h':∀x∈xs,ev σ x=ev σ' x:=h;cases mo<;>first
   |exact(iO rfl).trans ((Ea h).trans (iO rfl).symm)
   |exact qAY
   |(simp only[ax,bk];rw[qA2 h'])
 all_goals exact(iO rfl).trans ((Ea h).trans (iO rfl).symm)
def qkD:Operand->List Nat
 | .tmp t=>[t]
 | _=>[]
def CI.reads:CI->List Nat
 | .op _ g c=>c.ops.flatMap qkD++ (match g with|some (s,_)=>[s]|none=>[])
 | .frz _ _=>[]
def H4{S:Nat->Spc}{x:CI}{σ σ':Sg}{Hr H:ab}{K:D->ab->Prop}(h:∀t∈x.reads,σ t=σ' t):OL S x σ Hr H K↔OL S x σ' Hr H K:=by
 cases x with
 |frz t n=>exact qAY
 | op dst g c=>
   have hev:∀y∈c.ops,ev σ y=ev σ' y:=λy hy=>by
    cases y with
    |tmp t=>exact h t (by simp only[CI.reads,qz5,qBB];exact .inl ⟨_,hy,by simp[qkD]⟩)
    | _=>rfl
   have hp:=qb4 (S:=S) (dst:=dst) (Hr:=Hr) (H:=H) (K:=K) hev;cases g with
   |none=>exact hp
   | some sb=>
     obtain⟨s,b⟩:=sb;simp only[OL];rw[<-h s (by simp[CI.reads])];split
     ·rw[hp]
     ·exact qAY
     ·exact qAY
end Go.Gv
