/- A part of the framework and of the walks: T2 T3 T4. -/
import Derived.Test.YtaiffcbkmgfklaaGreatDoorGu05
set_option linter.unusedSimpArgs false
set_option linter.unusedVariables false

namespace Go.Gv
inductive CI where
 | op (dst:Option Nat) (g:Option (Nat×Bool)) (c:COp)
 | frz (t n:Nat)
def CI.real:CI→Bool
 | .op _ _ _=> true
 | .frz _ _=> false
def dS (P:Program) (z:List PanicEntry→Prop) (S:Nat→Spc):CI→Prop
 | .op _ _ c=> CallOk P z S c
 | .frz _ _=> True
def E5 (ops:Array Oper) (o:Oper):Option (Option (Nat×Bool)):=
 match o.guard with
 | none=> some none
 | some (j,b)=> ((ops[j]?).bind (·.dst)).map fun d=> some (d,b)
def dE (P:Program) (im:List Nat) (N:Nat) (ops:Array Oper) (o:Oper):Option CI:=do
 let c ←em P im o
 let g ←E5 ops o
 if o.dst.all (· < N) then some (.op o.dst g c) else none
def lu (P:Program) (im:List Nat) (N:Nat) (ops:Array Oper):Option (List CI):=ops.toList.mapM (dE P im N ops)
def nY (g:Option (Nat×Bool)) (σ:Sg) (yes no:Sg→Prop):Prop:=
 match g with
 | none=> yes σ
 | some (s,b)=> match σ s with
   | .v (.bool t)=> (t=b→yes (l5 σ s (.v (.bool b))))∧(t=(!b)→no (l5 σ s (.v (.bool (!b)))))
   | .undef=> no σ
   | _=> False
def Dj:List D→ab→(List D→ab→Prop)→Prop
 | [],H,K=> K [] H
 | .own id x::cs,H,K=> match H id with
   | some (.row x' _ n es)=> x'=x∧Dj cs (au H id none) fun cs' H'=> K (.list n es::cs') H'
   | _=> False
 | c::cs,H,K=> Dj cs H fun cs' H'=> K (c::cs') H'
open Classical in
noncomputable def Hy (id:Nat) (x:Value) (L:D):D→D
 | .own i y=> if i=id∧y=x then L else .own i y
 | d=> d
noncomputable def SP (id:Nat) (x:Value) (L:D) (σ:Sg):Sg:=fun s=> Hy id x L (σ s)
def DZ (t n:Nat) (σ:Sg) (H:ab) (K:Sg→ab→Prop):Prop:=
 match σ t with
 | .own id x=> match H id with
   | some (.row x' _ n' es)=> x'=x∧K (SP id x (.list n' es) σ) (au H id none)
   | _=> False
 | .bptr id b off=> match H id with
   | some (.box b' cs)=> b'=b∧K (l5 σ t (.cptr cs off)) (au H id none)
   | _=> False
 | .v (.slice none 0 0)=> K (l5 σ t (.list n [])) H
 | .sub id x n' lo hi=> match H id with
   | some (.row x' el n'' es)=> x'=x∧n'=n''∧(if n=0 then lo=0∧ ∀v,K (l5 σ t (.own id v)) (au H id (some (.row v el n'' (es.take hi)))) else K (l5 σ t (.list n'' ((es.take hi).drop lo))) (au H id none))
   | _=> False
 | .agg cs=> Dj cs H fun cs' H'=> K (l5 σ t (.agg cs')) H'
 | _=> K σ H
def xz (S:Nat→Spc):List CI→Sg→ab→(Sg→ab→Prop)→Prop
 | [],σ,H,K=> K σ H
 | .frz t n::r,σ,H,K=> DZ t n σ H fun σ' H'=> xz S r σ' H' K
 | .op dst g c::r,σ,H,K=> nY g σ (fun σ=> bu S c dst σ H fun d H'=> xz S r (f9 σ dst d) H' K) (fun σ=> xz S r (f9 σ dst .undef) H K)
section
variable {P:Program} {im:List Nat} {a:Act} {E:pR} {tp I:Nat→Prop} {H:ab} {w:World} {σ:Sg} {S:Nat→Spc}
theorem StW.drop (h:StW E tp H w) (id:Nat):StW E tp (au H id none) w∧ ∀x d,R tp (cm E.O tp H w) w x d→R tp (cm E.O tp (au H id none) w) w x d:=
 h.own id none (fc w none) (fun b hb=> by cases hb) (fun r b h1=> by cases h1) (fun _ r h1=> by cases h1)
theorem DX (h:StW E tp H w) {id b:Nat} {r:Res} (hr:H id=some r) (hb:r.blk=some b):cm E.O tp (au H id none) w b:=by
 have ho:=h.sat.out id r b hr hb
 refine⟨(h.sat.ok id r hr).lt hb,ho.1,ho.2,fun⟨i,s,h1,h2⟩=> ?_⟩
 by_cases hi:i=id
 ·subst hi;simp[au] at h1
 ·simp[au,hi] at h1
  exact hi (h.sat.dis _ _ _ _ b h1 hr h2 hb)
theorem LN (h:StW E tp H w) {id el n:Nat} {x:Value} {es:List D} (hr:H id=some (.row x el n es)):R tp (cm E.O tp (au H id none) w) w x (.list n es):=by
 obtain⟨xs,⟨g1,g2⟩,g3,g4⟩:=h.sat.ok id _ hr
 have hm:=(h.drop id).2
 have hfl:=bA (es:=es) (fun d hd=> (g3 d hd).2)
 rcases g2 with⟨rfl,h0⟩ | ⟨g,cap,cur,rfl,_,g5,g6,g7,g8,g9⟩
 ·have:es= []:=List.eq_nil_of_length_eq_zero h0
  subst this
  exact .nolist _ _ _
 ·have hcell: ∀ (k:Nat) (c:D),(cj es)[k]?=some c→ ∃y,xs[k]?=some y∧w.cell? ⟨g,0+k,none⟩=some y∧y.oneCell'=true∧R tp (cm E.O tp (au H id none) w) w y c:=by
   intro k c hk
   have hlt:k < xs.length:=by
    rw[g1,←hfl];exact(List.getElem?_eq_some_iff.1 hk).1
   have hy:xs[k]?=some xs[k]:=List.getElem?_eq_getElem hlt
   refine⟨xs[k],hy,?_,(g4 k _ c hy hk).1,hm _ _ (g4 k _ c hy hk).2⟩
   rw[Nat.zero_add,cell_of_row w g k cur el (0,0) g5]
   have: (cur.toList.take (es.length*n))[k]?=some xs[k]:=by rw[g9];exact hy
   rw[List.getElem?_take] at this
   split at this
   ·simpa using this
   ·cases this
  refine .list g 0 cap n es (fun k=> xs.getD k undef) (DX h hr rfl) g6 g7 g3 (fun k c hk=> ?_) (fun k c hk=> ?_) (fun k c hk=> ?_)
  all_goals
   obtain⟨y,h1,h2,h3,h4⟩:=hcell k c hk
   have hg:xs.getD k undef=y:=by simp[List.getD,h1]
   try dsimp only
   rw[hg]
  ·exact h2
  ·exact h3
  ·exact h4
theorem YL (h:StW E tp H w) {id b off:Nat} {cs:List D} (hr:H id=some (.box b cs)):R tp (cm E.O tp (au H id none) w) w (.pointer (some ⟨b,off,none⟩)) (.cptr cs off):=by
 obtain⟨xs,el,g1,g2,g3⟩:=h.sat.ok id _ hr
 have hm:=(h.drop id).2
 obtain⟨f,k1,k2,k3⟩:=tq g1 g2 (fun k y c h1 h2=> ⟨(g3 k y c h1 h2).1,hm _ _ (g3 k y c h1 h2).2⟩)
 have:=R.cptr (tp:=tp) b 0 cs off f (DX h hr rfl) k1 k2 k3
 simpa using this
theorem PX: ∀ (cs:List D) (H:ab) (K:List D→ab→Prop) (xs:List Value),StW E tp H w→xs.length=cs.length→ct (R tp (cm E.O tp H w) w) xs cs→Dj cs H K→
 ∃cs' H',StW E tp H' w∧(∀x d,R tp (cm E.O tp H w) w x d→R tp (cm E.O tp H' w) w x d)∧xs.length=cs'.length∧ct (R tp (cm E.O tp H' w) w) xs cs'∧K cs' H':=by
 intro cs
 induction cs with
 | nil=> intro H K xs hst hl hc hv;exact⟨[],H,hst,fun _ _ h=> h,hl,hc,hv⟩
 | cons c cs ih=>
   intro H K xs hst hl hc hv
   cases xs with
   | nil=> simp at hl
   | cons x xs=>
     simp at hl
     have hx:=hc 0 x c rfl rfl
     have htl: ∀ {H':ab},(∀x d,R tp (cm E.O tp H w) w x d→R tp (cm E.O tp H' w) w x d)→ct (R tp (cm E.O tp H' w) w) xs cs:=fun m k y e h1 h2=>
      ⟨(hc (k+1) y e (by simpa using h1) (by simpa using h2)).1,m _ _ (hc (k+1) y e (by simpa using h1) (by simpa using h2)).2⟩
     have keep: (∃H1 c',StW E tp H1 w∧(∀x d,R tp (cm E.O tp H w) w x d→R tp (cm E.O tp H1 w) w x d)∧R tp (cm E.O tp H1 w) w x c'∧Dj cs H1 fun cs' H'=> K (c'::cs') H'):=by
      have plain: (∀id y,c≠ .own id y)→Dj cs H (fun cs' H'=> K (c::cs') H'):=by
       intro hne
       cases c <;> first | exact hv | (exact absurd rfl (hne _ _))
      by_cases hown: ∃id y,c= .own id y
      ·obtain⟨id,y,rfl⟩:=hown
       simp only[Dj] at hv
       split at hv
       ·rename_i x' el n es hH
        obtain⟨rfl,hv⟩:=hv
        have hd:=hst.drop id
        have hxe:x=x':=by cases hx.2;rfl
        subst hxe
        exact⟨au H id none,_,hd.1,hd.2,LN hst hH,hv⟩
       ·exact hv.elim
      ·exact⟨H,c,hst,fun _ _ h=> h,hx.2,plain (fun id y h=> hown ⟨id,y,h⟩)⟩
     obtain⟨H1,c',s1,m1,r1,v1⟩:=keep
     obtain⟨cs',H',s2,m2,l2,c2,k2⟩:=ih H1 _ xs s1 hl (htl m1) v1
     refine⟨c'::cs',H',s2,fun y d h=> m2 _ _ (m1 _ _ h),by simp[l2],fun k y e h1 h2=> ?_,k2⟩
     cases k with
     | zero=> simp at h1 h2;subst h1;subst h2;exact⟨hx.1,m2 _ _ r1⟩
     | succ k=> simp at h1 h2;exact c2 k y e h1 h2
theorem YK (h:StW E tp H w) {id el n lo hi:Nat} {x q:Value} {es:List D} {I:Nat→Prop} (hr:H id=some (.row x el n es)) (hl:R tp (cm E.O tp (au H id none) w) w x (.list n es)) (hq:R tp I w q (.sub id x n lo hi)):
 R tp (cm E.O tp (au H id none) w) w q (.list n ((es.take hi).drop lo)):=by
 cases hq with
 | subnil=>
   have: ((es.take 0).drop 0)= []:=by simp
   rw[this]
   exact .nolist _ _ _
 | sub _ b len cap _ _ _ p h1 h2 h3 hm hp=>
   cases hl with
   | nolist _ _ _=>
     have e0:hi -lo=0:=by omega
     rw[e0,List.take_nil,List.drop_nil]
     exact .nolist _ _ _
   | list _ _ _ _ _ f hI hc hm' hn hcell hone hR=>
     by_cases hlc:lo < cap∨lo=0
     ·have:=GX hI hc hm' hn hcell hone hR h1 h2
      rw[hp hlc]
      simpa using this
     ·have e0:hi -lo=0:=by omega
      have e1: (es.take hi).drop lo= []:=by
       apply List.eq_nil_of_length_eq_zero
       simp;omega
      rw[e0,e1]
      exact .nolist _ _ _
theorem qcu (h:StW E tp H w) {id el n hi:Nat} {x q:Value} {es:List D} (hr:H id=some (.row x el n es)) (hq:R tp (cm E.O tp H w) w q (.sub id x n 0 hi)):
 q.oneCell'=true∧StW E tp (au H id (some (.row q el n (es.take hi)))) w∧ ∀y e,R tp (cm E.O tp H w) w y e→R tp (cm E.O tp (au H id (some (.row q el n (es.take hi)))) w) w y e:=by
 obtain⟨xs,⟨g1,g2⟩,g3,g4⟩:=h.sat.ok id _ hr
 cases hq with
 | subnil=>
   refine⟨rfl,h.own id _ (fc w none) (fun b hb=> by cases hb) (fun r b h1 h2=> by cases h1;simp[Res.blk,Value.ownBlock] at h2) (fun m r h1=> ?_)⟩
   cases h1
   rw[List.take_zero]
   exact⟨[],World.ownsRow_nil _ _ _ _,by simp,fun k y c h=> by simp at h⟩
 | sub _ b len cap _ _ _ p h1 h2 h3 hm hp=>
   have:=hp (.inr rfl)
   subst this
   rcases g2 with⟨h,_⟩ | ⟨g,cap',cur,h',g4',g5,g6,g7,g8,g9⟩
   ·cases h
   ·cases h'
    have hl: (es.take hi).length=hi:=by simp;omega
    have hmul2:hi*n≤es.length*n:=Nat.mul_le_mul_right n h2
    refine⟨rfl,h.own id _ (fc w none) (fun b hb=> by cases hb) (fun r b' h1 h2=> by cases h1;exact .inr ⟨_,hr,by simpa [Res.blk,Value.ownBlock] using h2⟩) (fun m r h1=> ?_)⟩
    cases h1
    refine⟨xs.take (hi*n),?_,fun d hd=> g3 d (List.mem_of_mem_take hd),fun k y c hy hc=> ?_⟩
    ·rw[hl]
     refine⟨by rw[List.length_take,g1];omega, .inr ⟨b,cap,cur,by simp,Nat.zero_le _,g5,by omega,g7,g8,?_⟩⟩
     rw[←g9,List.take_take]
     congr 1
     omega
    ·rw[List.getElem?_take] at hy
     split at hy
     ·have:=g4 k y c hy (kL hc)
      exact⟨this.1,m _ _ this.2⟩
     ·cases hy
theorem Dh {t n:Nat} {K:Sg→ab→Prop} (hst:St E σ H a w) (hv:DZ t n σ H K): ∃σ' H',St E σ' H' a w∧K σ' H':=by
 obtain⟨hd,hN,tp,hw,hr⟩:=hst
 have mk: ∀ (H':ab) (d:D),StW E tp H' w→(∀x e,R tp (cm E.O tp H w) w x e→R tp (cm E.O tp H' w) w x e)→R tp (cm E.O tp H' w) w (a.tmps.getD t undef) d→St E (l5 σ t d) H' a w:=by
  intro H' d h1 h2 h3
  refine⟨hd,hN,tp,h1,fun s=> ?_⟩
  unfold l5
  split
  ·rename_i h;subst h;exact h3
  ·exact h2 _ _ (hr s)
 have ht:=hr t
 simp only[DZ] at hv
 split at hv
 ·rename_i id x e1
  rw[e1] at ht
  split at hv
  ·rename_i x' el n' es hH
   obtain⟨rfl,hk⟩:=hv
   have hm:=hw.drop id
   have hxe:a.tmps.getD t undef=x':=by
    generalize a.tmps.getD t undef=q at ht
    cases ht;rfl
   refine⟨_,_,⟨hd,hN,tp,hm.1,fun s=> ?_⟩,hk⟩
   have hs:=hr s
   unfold SP
   generalize a.tmps.getD s undef=q at hs ⊢
   cases hσ:σ s with
   | own i y=>
     rw[hσ] at hs
     simp only[Hy]
     split
     ·rename_i hiy
      obtain⟨rfl,rfl⟩:=hiy
      cases hs
      exact LN hw hH
     ·exact hm.2 _ _ hs
   | _=> rw[hσ] at hs;exact hm.2 _ _ hs
  ·exact hv.elim
 ·rename_i id b off e1
  rw[e1] at ht
  split at hv
  ·rename_i b' cs hH
   obtain⟨rfl,hk⟩:=hv
   have hm:=hw.drop id
   have hxe:a.tmps.getD t undef= .pointer (some ⟨b',off,none⟩):=by
    generalize a.tmps.getD t undef=q at ht
    cases ht;rfl
   exact⟨_,_,mk _ _ hm.1 hm.2 (by rw[hxe];exact YL hw hH),hk⟩
  ·exact hv.elim
 ·rename_i e1
  rw[e1] at ht
  exact⟨_,_,mk _ _ hw (fun _ _ h=> h) (by rw[ht.inv_v];exact .nolist _ _ _),hv⟩
 ·rename_i id x n' lo hi e1
  rw[e1] at ht
  split at hv
  ·rename_i x' el n'' es hH
   obtain⟨hxe,rfl,hk⟩:=hv
   subst hxe
   split at hk
   ·obtain⟨rfl,hk⟩:=hk
    obtain⟨r1,r2,r3⟩:=qcu hw hH ht
    exact⟨_,_,mk _ _ r2 r3 (.own _ _ r1),hk _⟩
   ·have hm:=hw.drop id
    exact⟨_,_,mk _ _ hm.1 hm.2 (YK hw hH (LN hw hH) ht),hk⟩
  ·exact hv.elim
 ·rename_i cs e1
  rw[e1] at ht
  obtain⟨xs,hx,hl,hc⟩:=ht.inv_agg
  obtain⟨cs',H',s1,m1,l1,c1,k1⟩:=PX cs H _ xs hw hl hc hv
  refine⟨_,_,mk _ _ s1 m1 ?_,k1⟩
  rw[hx]
  refine .agg xs cs' l1 (fun x hx'=> ?_) (fun k x c h1 h2=> (c1 k x c h1 h2).2)
  obtain⟨k,hk⟩:=List.mem_iff_getElem?.1 hx'
  have hlt:k < cs'.length:=by rw[←l1];exact(List.getElem?_eq_some_iff.1 hk).1
  exact(c1 k x _ hk (List.getElem?_eq_getElem hlt)).1
 ·exact⟨_,_,⟨hd,hN,tp,hw,hr⟩,hv⟩
theorem J9 {ops:Array Oper} {j s:Nat} {t:Bool} (hr:R tp I w (a.tmps.getD s undef) (.v (.bool t))) (hj: (ops[j]?).bind (·.dst)=some s):yielded ops a.tmps j=some t:=by
 have h:=hr.inv_v
 unfold yielded
 rw[hj]
 simp only[Option.bind_some]
 rw[Array.getD_eq_getD_getElem?] at h
 cases hq:a.tmps[s]? with
 | none=> rw[hq] at h;simp[undef] at h
 | some q=> rw[hq] at h;simp at h;subst h;rfl
theorem Ie {ops:Array Oper} {j s:Nat} (hr:R tp I w (a.tmps.getD s undef) .undef) (hj: (ops[j]?).bind (·.dst)=some s):yielded ops a.tmps j=none:=by
 have h:a.tmps.getD s undef=undef:=by
  generalize a.tmps.getD s undef=q at hr
  cases hr;rfl
 unfold yielded
 rw[hj]
 simp only[Option.bind_some]
 rw[Array.getD_eq_getD_getElem?] at h
 cases hq:a.tmps[s]? with
 | none=> rfl
 | some q=> rw[hq] at h;simp at h;subst h;rfl
theorem Ag {s:Nat} {d:D} (h:σ s=d):l5 σ s d=σ:=by
 funext t
 unfold l5
 split
 ·rename_i e;rw[e,h]
 ·rfl
theorem rN {ops:Array Oper} {o:Oper} {g:Option (Nat×Bool)} {yes no:Sg→Prop} (hg:E5 ops o=some g) (hr: ∀t,R tp I w (a.tmps.getD t undef) (σ t)) (hv:nY g σ yes no):
 (Region.wanted o (yielded ops a.tmps)=true∧yes σ)∨(Region.wanted o (yielded ops a.tmps)=false∧no σ):=by
 unfold E5 at hg
 cases ho:o.guard with
 | none=>
   rw[ho] at hg
   simp at hg
   subst hg
   exact .inl ⟨by simp[Region.wanted,ho],hv⟩
 | some jb=>
   obtain⟨j,b⟩:=jb
   rw[ho] at hg
   obtain⟨s,hs,rfl⟩:=bq hg
   simp only[nY] at hv
   have hrs:=hr s
   split at hv
   ·rename_i t e1
    rw[e1] at hrs
    have hy:=J9 hrs hs
    cases hb: (t==b) with
    | true=>
      have:t=b:=by simpa using hb
      subst this
      refine .inl ⟨by simp[Region.wanted,ho,hy],?_⟩
      have:=hv.1 rfl
      rwa [Ag e1] at this
    | false=>
      have hne:t=(!b):=by cases t <;> cases b <;> simp_all
      refine .inr ⟨by simp only[Region.wanted,ho,hy,hne];cases b <;> rfl,?_⟩
      have:=hv.2 hne
      rw[←hne,Ag e1] at this
      exact this
   ·rename_i e1
    rw[e1] at hrs
    have hy:=Ie hrs hs
    exact .inr ⟨by simp[Region.wanted,ho,hy],hv⟩
   ·exact hv.elim
theorem St.skip (hst:St E σ H a w) (dst:Option Nat) (hdst: ∀t,dst=some t→t < E.N):St E (f9 σ dst .undef) H (a.put dst undef) w:=by
 obtain⟨hd,hN,tp,hw,hr⟩:=hst
 exact St.put hd hN hr ⟨hw,fun _ _ h=> h⟩ dst hdst .undef
theorem P3 {N:Nat} {o:Oper} (h:o.dst.all (· < N)=true): ∀t,o.dst=some t→t < N:=by
 intro t ht
 rw[ht] at h
 simpa using h
theorem Jq {ops:Array Oper} {Q:Exit→Act→World→Prop} {K:Sg→ab→Prop} {z:List PanicEntry→Prop} (hpan: ∀c a w',a.defers=E.ds→Oq E z c w'→Q (.panic c) a w') (hQ: ∀σ H a w,St E σ H a w→K σ H→Q .normal a w):
 ∀ (cis:List CI) (hS: ∀x∈cis,dS P z S x) (l:List Oper),l.mapM (dE P im E.N ops)=some (cis.filter CI.real)→ ∀ (σ:Sg) (H:ab) (a:Act) (w:World),St E σ H a w→xz S cis σ H K→wpList P ops Q l a w:=by
 intro cis
 induction cis with
 | nil=>
   intro hS l hl σ H a w hst hv
   cases l with
   | nil=> exact hQ σ H a w hst hv
   | cons o l=>
     rw[List.mapM_cons] at hl
     simp only[Option.bind_eq_bind,Option.bind_eq_some_iff,List.filter_nil] at hl
     obtain⟨x,_,y,_,h⟩:=hl
     cases h
 | cons x cis ih=>
   intro hS l hl σ H a w hst hv
   have ih:=ih fun x hx=> hS x (by simp[hx])
   have hS0:=hS _ (List.mem_cons_self ..)
   cases x with
   | frz t n=>
     simp only[xz] at hv
     obtain⟨σ',H',hst',hv'⟩:=Dh hst hv
     exact ih l (by simpa [List.filter_cons,CI.real] using hl) σ' H' a w hst' hv'
   | op dst g c=>
     cases l with
     | nil=> simp[List.filter_cons,CI.real] at hl
     | cons o l=>
       rw[List.mapM_cons] at hl
       simp only[Option.bind_eq_bind,Option.bind_eq_some_iff,List.filter_cons,CI.real,if_true] at hl
       obtain⟨x,hx,y,hy,h⟩:=hl
       cases h
       unfold dE at hx
       simp only[Option.bind_eq_bind,Option.bind_eq_some_iff] at hx
       obtain⟨c',hc,g',hg,hx⟩:=hx
       split at hx
       ·rename_i hdst
        cases hx
        have hdst:=P3 hdst
        have hst0:=hst
        obtain⟨hd,hN,tp,hw,hr⟩:=hst
        simp only[xz] at hv
        unfold wpList
        rcases rN hg hr hv with⟨hwant,hyes⟩ | ⟨hwant,hno⟩
        ·rw[if_pos hwant]
         exact .inl (xt hS0 hc hw hd hN hr hdst hyes (fun c w'=> hpan c a w' hd) (fun r H' x w' hk hst'=> ih l hy _ _ _ _ hst' hk))
        ·rw[if_neg (by simp[hwant])]
         exact ih l hy _ _ _ _ (hst0.skip o.dst hdst) hno
       ·cases hx
end
end Go.Gv

namespace Go.Gv
def COp.ops:COp→List Operand
 | .mv x | .box _ _ x | .tbx _ x | .load _ _ x | .nilck x | .not x | .neg x | .conv _ x | .faddr _ x | .fld _ _ _ x | .ext x _ | .len x | .slen x=> [x]
 | .pick c x y=> [c,x,y]
 | .alloc _ _ | .nslice _ _ | .bad=> []
 | .build _ ps=> ps.map (·.2.2)
 | .bslice _ _ ps=> ps
 | .mslice _ _ ps=> ps
 | .store _ _ x y | .arith _ x y | .cmp _ x y | .eql _ _ _ x y | .scat x y | .iaddr _ x y | .sidx x y | .append _ _ _ _ x y=> [x,y]
 | .clo _ xs | .mm _ xs | .call _ xs | .callb _ _ xs=> xs
 | .appmk _ _ _ _ _ x y | .copy _ x y=> [x,y]
 | .clear _ _ _ x | .cap x | .srange x | .snext x | .sbytes x | .bstr x | .mkif _ x=> [x]
 | .mkslice _ _ _ _ _ l c=> [l,c]
 | .slice _ x lo hi | .sslice x lo hi=> x::lo.toList++hi.toList
 | .callv f xs=> f::xs
def qdS (A:PT):Prop:= ∃ (p:List D→Prop) (o:Nat→List D→D→Res→Prop),∀ (t:Nat) (ds:List D) (H:ab) (K:D→ab→Prop),A t ds H K↔ (p ds∧ ∀d u,o t ds d u→K d (au H t (some u)))
def Sb (dst:Option Nat) (s:Spc) (args:List D) (H:ab) (K:D→ab→Prop):Prop:=match s with
 | .pure pc=> pc.pre args∧ ∀r,pc.post args r→K r H
 | .gen A _=> match dst with
   | some t=> qdS A∧A t args H K
   | none=> False
 | .none=> False
def qbt (r:Nat) (A:PT) (args:List D):Prop:= ∃ (p:Option Res→Prop) (o:Option Res→D→Res→Prop),∀ (t:Nat) (H:ab) (K:D→ab→Prop),A t args H K↔ (p (H r)∧ ∀d u,o (H r) d u→K d (au H r (some u)))
def Gn (r:Nat) (dst:Option Nat) (s:Spc) (args:List D) (H:ab) (K:D→ab→Prop):Prop:=match s with
 | .gen A _=> qbt r A args∧A (dst.getD 0) args H K
 | _=> False
def bh (S:Nat→Spc) (c:COp) (dst:Option Nat) (σ:Sg) (Hr H:ab) (K:D→ab→Prop):Prop:=
 match c with
 | .call f args=> Sb dst (S f) (args.map (ev σ)) H K
 | .callb r f args=> Gn r dst (S f) (args.map (ev σ)) H K
 | .callv f args=> match ev σ f with
   | .clo g caps=> match S g with
     | .pure pc=> pc.pre (args.map (ev σ) ++caps)∧ ∀r,pc.post (args.map (ev σ) ++caps) r→K r H
     | _=> False
   | _=> False
 | .alloc el z=> cZ (.alloc el z) dst σ H K
 | .box el false x=> cZ (.box el false x) dst σ H K
 | .tbx el x=> cZ (.tbx el x) dst σ H K
 | .nslice el n=> cZ (.nslice el n) dst σ H K
 | .mslice el n ps=> cZ (.mslice el n ps) dst σ H K
 | .mkslice el n b agg z l c=> cZ (.mkslice el n b agg z l c) dst σ H K
 | .append rt el n b x y=> l8 n (ev σ y) Hr fun es2=> match rt with
   | none=> match dst,ev σ x with
     | some t, .v (.slice none 0 0)=> es2.length*b≤140737488355328∧es2.length≤140737488355328∧ ∀v,K (.own t v) (au H t (some (.row v el n es2)))
     | _,_=> False
   | some r=> match ev σ x with
     | .own id x=> id=r∧match H r with
       | some (.row x' el' n' es)=> x'=x∧el'=el∧n'=n∧(es.length+es2.length) *b≤140737488355328∧es.length+es2.length≤140737488355328∧ ∀v,K (.own r v) (au H r (some (.row v el n (es++es2))))
       | _=> False
     | _=> False
 | .store rt sz x y=> (ev σ y).kn=true∧(ev σ y).cells.length=sz∧match rt with
   | none=> False
   | some r=> match ev σ x with
     | .bptr id b off=> id=r∧match H r with
       | some (.box b' cells)=> b'=b∧off+sz≤cells.length∧K .undef (au H r (some (.box b' (setAt cells off (ev σ y).cells))))
       | _=> False
     | .eptr id x n i off=> id=r∧match H r with
       | some (.row x' el n' es)=> x'=x∧n'=n∧0 < n∧off+sz≤n∧i < es.length∧ ∀d,es[i]?=some d→
          K .undef (au H r (some (.row x' el n' (es.set i (if off=0∧sz=n then ev σ y else .agg (setAt d.cells off (ev σ y).cells))))))
       | _=> False
     | _=> False
 | .clear .. | .copy .. | .srange .. | .snext .. => False
 | .appmk el n b agg z x c=> cZ (.appmk el n b agg z x c) dst σ H K
 | c=> aM c σ Hr fun d=> K d H
def COp.wid (c:COp) (dst:Option Nat):Option Nat:=
 match c with
 | .append (some r) _ _ _ _ _=> some r
 | .store (some r) _ _ _=> some r
 | .callb r _ _=> some r
 | _=> dst
def CI.wid:CI→Option Nat
 | .op d _ c=> c.wid d
 | .frz _ _=> none
def ck:List CI→ab→ab
 | [],H=> H
 | .frz _ _::_,H=> H
 | .op d g c::l,H=> fun i=> if(CI.op d g c).wid=some i then none else ck l H i
def lY (S:Nat→Spc):List CI→Sg→ab→ab→(Sg→ab→Prop)→Prop
 | [],σ,_,H,K=> K σ H
 | .frz _ _::r,σ,Hr,H,K=> lY S r σ (ck r Hr) H K
 | .op dst g c::r,σ,Hr,H,K=> nY g σ (fun σ=> bh S c dst σ Hr H fun d H'=> lY S r (f9 σ dst d) Hr H' K) (fun σ=> lY S r (f9 σ dst .undef) Hr H K)
def IK (S:Nat→Spc) (x:CI) (σ:Sg) (Hr H:ab) (K:D→ab→Prop):Prop:=
 match x with
 | .frz _ _=> False
 | .op dst g c=> match g with
   | none=> bh S c dst σ Hr H K
   | some (s,b)=> match σ s with
     | .v (.bool t)=> (t=b→bh S c dst σ Hr H K)∧(t=(!b)→K .undef H)
     | .undef=> K .undef H
     | _=> False
def CI.dst:CI→Option Nat
 | .op d _ _=> d
 | .frz _ _=> none
def Xz (S:Nat→Spc):List (CI×ab)→Sg→ab→(Sg→ab→Prop)→Prop
 | [],σ,H,K=> K σ H
 | x::r,σ,H,K=> IK S x.1 σ x.2 H fun d H'=> Xz S r (f9 σ x.1.dst d) H' K
def Oz (F: (D→Prop)→Prop):Prop:= ∃ (pre:Prop) (out:D→Prop),∀K,F K↔ (pre∧ ∀d,out d→K d)
theorem cS (d:D):Oz fun K=> K d:=⟨True,fun e=> e=d,fun K=> ⟨fun h=> ⟨trivial,fun e he=> he ▸h⟩,fun h=> h.2 d rfl⟩⟩
theorem ta:Oz fun _=> False:=⟨False,fun _=> True,fun K=> ⟨fun h=> h.elim,fun h=> h.1⟩⟩
theorem bE {A:Prop} {F: (D→Prop)→Prop} (h:Oz F):Oz fun K=> A∧F K:=by
 obtain⟨pre,out,h⟩:=h
 exact⟨A∧pre,out,fun K=> by dsimp only;rw[h K,and_assoc]⟩
theorem pN {A:Prop} {F: (D→Prop)→Prop} (h:Oz F):Oz fun K=> A→F K:=by
 obtain⟨pre,out,h⟩:=h
 refine⟨A→pre,fun d=> A∧out d,fun K=> ?_⟩
 constructor
 ·intro hf
  exact⟨fun ha=> ((h K).1 (hf ha)).1,fun d hd=> ((h K).1 (hf hd.1)).2 d hd.2⟩
 ·intro hf ha
  exact(h K).2 ⟨hf.1 ha,fun d hd=> hf.2 d ⟨ha,hd⟩⟩
theorem A5 {α:Type} {F:α→(D→Prop)→Prop} (h: ∀x,Oz (F x)):Oz fun K=> ∀x,F x K:=by
 have h': ∀x,∃ (p:Prop× (D→Prop)),∀K,F x K↔ (p.1∧ ∀d,p.2 d→K d):=fun x=> by
  obtain⟨pre,out,hx⟩:=h x
  exact⟨(pre,out),hx⟩
 obtain⟨p,hp⟩:=Classical.axiomOfChoice h'
 refine⟨∀x,(p x).1,fun d=> ∃x,(p x).2 d,fun K=> ?_⟩
 constructor
 ·intro hf
  exact⟨fun x=> ((hp x K).1 (hf x)).1,fun d ⟨x,hx⟩=> ((hp x K).1 (hf x)).2 d hx⟩
 ·intro hf x
  exact(hp x K).2 ⟨hf.1 x,fun d hd=> hf.2 d ⟨x,hd⟩⟩
theorem Vt {F G: (D→Prop)→Prop} (h1:Oz F) (h2:Oz G):Oz fun K=> F K∧G K:=by
 obtain⟨p1,o1,h1⟩:=h1
 obtain⟨p2,o2,h2⟩:=h2
 refine⟨p1∧p2,fun d=> o1 d∨o2 d,fun K=> ?_⟩
 dsimp only
 rw[h1 K,h2 K]
 constructor
 ·rintro⟨⟨a,b⟩,c,d⟩
  exact⟨⟨a,c⟩,fun e he=> he.elim (b e) (d e)⟩
 ·rintro⟨⟨a,c⟩,b⟩
  exact⟨⟨a,fun e he=> b e (.inl he)⟩,c,fun e he=> b e (.inr he)⟩
theorem JG (σ:Sg): ∀ (ps:List (Nat×Nat×Operand)) (cs:List D),Oz fun K=> jR σ ps cs fun cs=> K (.agg cs)
 | [],cs=> cS _
 | (off,sz,x)::r,cs=> bE (bE (JG σ r _))
theorem Sx (op:BinOp) (k:IntKind) (a b:Int):Oz fun K=> m7 op k a b K:=by
 cases op <;> simp only[m7] <;> first
  | exact ta
  | exact bE (cS _)
  | exact bE (bE (cS _))
theorem Lq (lo hi:Option (Option (IntKind×Int))) (len:Nat) (f:Nat→Nat→D):Oz fun K=> yz lo hi len fun l h=> K (f l h):=by
 unfold yz
 split <;> first
  | exact cS _
  | exact bE (bE (cS _))
  | exact bE (bE (bE (cS _)))
  | exact ta
theorem Nk (c:COp) (σ:Sg) (Hr:ab):Oz fun K=> aM c σ Hr K:=by
 unfold aM
 split <;> first
  | exact cS _
  | exact ta
  | exact JG σ _ _
  | exact bE (cS _)
  | skip
 all_goals
  (repeat' split) <;> first
    | exact cS _
    | exact ta
    | exact Vt (pN (cS _)) (pN (cS _))
    | exact bE (cS _)
    | exact bE (bE (cS _))
    | exact bE (bE (bE (cS _)))
    | exact bE (bE (bE (bE (cS _))))
    | exact bE (bE (bE (bE (A5 fun _=> pN (cS _)))))
    | exact bE (bE (bE (A5 fun _=> pN (cS _))))
    | exact bE (bE (A5 fun _=> pN (cS _)))
    | exact bE (Sx _ _ _ _)
    | exact pN (cS _)
    | exact bE (pN (cS _))
    | exact bE ta
    | exact bE (bE (Lq _ _ _ _))
    | exact bE (Lq _ _ _ _)
    | exact Lq _ _ _ fun _ _=> _
    | skip
def gF (H:ab) (dst:Option Nat) (u:Option Res):ab:=
 match dst,u with
 | some t,some r=> au H t (some r)
 | _,_=> H
def LinU0 (dst:Option Nat) (F:ab→(D→ab→Prop)→Prop):Prop:=
 ∃ (pre:Prop) (out:D→Option Res→Prop),∀H K,F H K↔ (pre∧ ∀d u,out d u→K d (gF H dst u))
def sT (H:ab):Option Nat→Option Res
 | some t=> H t
 | none=> none
def qbs (wid:Option Nat) (F:ab→(D→ab→Prop)→Prop):Prop:=
 ∀r0,∃ (pre:Prop) (out:D→Option Res→Prop),∀H,sT H wid=r0→ ∀K,F H K↔ (pre∧ ∀d u,out d u→K d (gF H wid u))
theorem LinU0.lin {dst:Option Nat} {F:ab→(D→ab→Prop)→Prop} (h:LinU0 dst F):qbs dst F:=fun _=> by
 obtain⟨pre,out,h⟩:=h
 exact⟨pre,out,fun H _ K=> h H K⟩
theorem lT (H:ab) (dst:Option Nat):gF H dst none=H:=by cases dst <;> rfl
theorem Lr {dst:Option Nat} {G: (D→Prop)→Prop} (h:Oz G):LinU0 dst fun H K=> G fun d=> K d H:=by
 obtain⟨pre,out,h⟩:=h
 refine⟨pre,fun d u=> out d∧u=none,fun H K=> ?_⟩
 dsimp only
 rw[h]
 constructor
 ·rintro⟨a,b⟩
  exact⟨a,fun d u ⟨h1,h2⟩=> by subst h2;rw[lT];exact b d h1⟩
 ·rintro⟨a,b⟩
  exact⟨a,fun d h1=> by have:=b d none ⟨h1,rfl⟩;rwa [lT] at this⟩
theorem bt (dst:Option Nat):LinU0 dst fun _ _=> False:=⟨False,fun _ _=> True,fun _ _=> ⟨fun h=> h.elim,fun h=> h.1⟩⟩
theorem oo {t:Nat} {α:Type} {A:Prop} (f:α→D) (r:α→Res):LinU0 (some t) fun H K=> A∧ ∀b,K (f b) (au H t (some (r b))):=by
 refine⟨A,fun d u=> ∃b,d=f b∧u=some (r b),fun H K=> ?_⟩
 constructor
 ·rintro⟨a,h⟩
  exact⟨a,fun d u ⟨b,h1,h2⟩=> by subst h1;subst h2;exact h b⟩
 ·rintro⟨a,h⟩
  exact⟨a,fun b=> h _ _ ⟨b,rfl,rfl⟩⟩
theorem LinU0.congr {dst:Option Nat} {F G:ab→(D→ab→Prop)→Prop} (h:LinU0 dst F) (hfg: ∀H K,G H K↔F H K):LinU0 dst G:=by
 obtain⟨pre,out,h⟩:=h
 exact⟨pre,out,fun H K=> (hfg H K).trans (h H K)⟩
theorem nB {S:Nat→Spc} {c:COp} {dst:Option Nat} {σ:Sg} {Hr H:ab} {K:D→ab→Prop} (h:c.isRead=true):bh S c dst σ Hr H K↔aM c σ Hr fun d=> K d H:=by
 cases c <;> first | exact Iff.rfl | (simp[COp.isRead] at h;done) | skip
 rename_i el im x
 cases im
 ·simp[COp.isRead] at h
 ·exact Iff.rfl
theorem Vu {dst:Option Nat} {n:Nat} {d:D} {Hr:ab} {F:List D→ab→(D→ab→Prop)→Prop} (h: ∀es,LinU0 dst (F es)):LinU0 dst fun H K=> l8 n d Hr fun es=> F es H K:=by
 have conj: ∀ {A:Prop} {G:ab→(D→ab→Prop)→Prop},LinU0 dst G→LinU0 dst fun H K=> A∧G H K:=fun {A G} h=> by
  obtain⟨pre,out,h⟩:=h
  exact⟨A∧pre,out,fun H K=> by dsimp only;rw[h H K,and_assoc]⟩
 unfold l8
 split
 ·exact conj (h _)
 ·split
  ·exact conj (conj (h _))
  ·exact bt _
 ·exact h _
 ·split
  ·exact conj (conj (conj (h _)))
  ·exact bt _
 ·exact bt _
theorem Vv {wid:Option Nat} {n:Nat} {d:D} {Hr:ab} {r0:Option Res} {F:List D→ab→(D→ab→Prop)→Prop}
 (h: ∀es,∃ (pre:Prop) (out:D→Option Res→Prop),∀H,sT H wid=r0→ ∀K,F es H K↔ (pre∧ ∀d u,out d u→K d (gF H wid u))):
 ∃ (pre:Prop) (out:D→Option Res→Prop),∀H,sT H wid=r0→ ∀K,(l8 n d Hr fun es=> F es H K) ↔ (pre∧ ∀d u,out d u→K d (gF H wid u)):=by
 have conj: ∀ {A:Prop} {G:ab→(D→ab→Prop)→Prop},(∃ (pre:Prop) (out:D→Option Res→Prop),∀H,sT H wid=r0→ ∀K,G H K↔ (pre∧ ∀d u,out d u→K d (gF H wid u)))→
  ∃ (pre:Prop) (out:D→Option Res→Prop),∀H,sT H wid=r0→ ∀K,(A∧G H K) ↔ (pre∧ ∀d u,out d u→K d (gF H wid u)):=fun {A G} h=> by
  obtain⟨pre,out,h⟩:=h
  exact⟨A∧pre,out,fun H hr K=> by rw[h H hr K,and_assoc]⟩
 have no: ∃ (pre:Prop) (out:D→Option Res→Prop),∀H,sT H wid=r0→ ∀K:D→ab→Prop,False↔ (pre∧ ∀d u,out d u→K d (gF H wid u)):=⟨False,fun _ _=> True,fun _ _ _=> ⟨fun h=> h.elim,fun h=> h.1⟩⟩
 unfold l8
 split
 ·exact conj (h _)
 ·split
  ·exact conj (conj (h _))
  ·exact no
 ·exact h _
 ·split
  ·exact conj (conj (conj (h _)))
  ·exact no
 ·exact no
theorem Sy (S:Nat→Spc) (c:COp) (dst:Option Nat) (σ:Sg) (Hr:ab) (hna: ∀r el n b x y,c≠ .append (some r) el n b x y) (hns: ∀r sz x y,c≠ .store (some r) sz x y) (hnb: ∀r f args,c≠ .callb r f args):LinU0 dst fun H K=> bh S c dst σ Hr H K:=by
 by_cases hro:c.isRead=true
 ·exact(Lr (Nk c σ Hr)).congr fun H K=> nB hro
 cases c
 case call f args=>
  simp only[bh]
  cases S f with
  | pure pc=> exact Lr (G:=fun K=> pc.pre (args.map (ev σ))∧ ∀r,pc.post (args.map (ev σ)) r→K r) (bE (A5 fun r=> pN (cS r)))
  | none=> exact bt dst
  | gen A hA=>
    cases dst with
    | none=> exact bt none
    | some t=>
      by_cases hf:qdS A
      ·obtain⟨p,o,h⟩:=id hf
       refine⟨p (args.map (ev σ)),fun d u=> ∃u',u=some u'∧o t (args.map (ev σ)) d u',fun H K=> ?_⟩
       simp only[Sb]
       rw[h t]
       constructor
       ·rintro⟨_,a,b⟩
        exact⟨a,fun d u ⟨u',e,h1⟩=> by subst e;exact b d u' h1⟩
       ·rintro⟨a,b⟩
        exact⟨hf,a,fun d u h1=> b d (some u) ⟨u,rfl,h1⟩⟩
      ·exact(bt (some t)).congr fun H K=> ⟨fun h=> hf h.1,fun h=> h.elim⟩
 case callb r f args=> exact absurd rfl (hnb r f args)
 case callv f args=>
  simp only[bh]
  split
  ·rename_i g caps _
   split
   ·rename_i pc _
    exact Lr (G:=fun K=> pc.pre (args.map (ev σ) ++caps)∧ ∀r,pc.post (args.map (ev σ) ++caps) r→K r) (bE (A5 fun r=> pN (cS r)))
   ·exact bt dst
  ·exact bt dst
 case alloc el z=>
  cases dst with
  | none=> simp only[bh,cZ];exact bt _
  | some t=> exact(oo (t:=t) (A:=True) (fun b=> D.bptr t b 0) (fun b=> Res.box b (z.map tv))).congr (fun H K=> by simp only[bh,cZ,true_and])
 case box el im x=>
  cases im with
  | true=> exact absurd rfl hro
  | false=>
    cases dst with
    | none=> simp only[bh,cZ];exact bt _
    | some t=> exact(oo (t:=t) (A:=(ev σ x).kn=true) (fun b=> D.bptr t b 0) (fun b=> Res.box b (ev σ x).cells)).congr (fun H K=> by simp only[bh,cZ])
 case tbx el x=>
  cases dst with
  | none=> simp only[bh,cZ];exact bt _
  | some t=> exact(oo (t:=t) (A:=(ev σ x).kn=true) (fun b=> D.bptr t b 0) (fun b=> Res.tbox el b (ev σ x).cells)).congr (fun H K=> by simp only[bh,cZ])
 case nslice el n=>
  cases dst with
  | none=> simp only[bh,cZ];exact bt _
  | some t=> exact(oo (t:=t) (A:=True) (fun x=> D.own t x) (fun x=> Res.row x el n [])).congr (fun H K=> by simp only[bh,cZ,true_and])
 case mslice el n ps=>
  cases dst with
  | none=> simp only[bh,cZ];exact bt _
  | some t=> exact(oo (t:=t) (A:=kW n (ps.map (ev σ))) (fun x=> D.own t x) (fun x=> Res.row x el n (ps.map (ev σ)))).congr (fun H K=> by simp only[bh,cZ])
 case mkslice el n b agg z l cc=>
  cases dst with
  | none=> simp only[bh,cZ];exact bt _
  | some t=>
    simp only[bh,cZ]
    split
    ·rename_i e1 e2
     rename_i k1 l' k2 c'
     exact(oo (t:=t) (A:=0≤l'∧l'≤c'∧b*c'≤140737488355328∧c'≤140737488355328) (fun x=> D.own t x) (fun x=> Res.row x el n (List.replicate l'.toNat (if agg then .agg (z.map tv) else tv (z.headD (.bool false)))))).congr (fun H K=> by simp only[and_assoc])
    ·exact bt _
 case store rt sz x y=>
  cases rt with
  | some r=> exact absurd rfl (hns r sz x y)
  | none=> exact(bt dst).congr fun H K=> ⟨fun h=> h.2.2.elim,fun h=> h.elim⟩
 case srange x=> exact bt dst
 case snext x=> exact bt dst
 case append rt el n b x y=>
  cases rt with
  | some r=> exact absurd rfl (hna r el n b x y)
  | none=>
    simp only[bh]
    refine Vu fun es2=> ?_
    split
    ·rename_i t _
     exact(oo (t:=t) (A:=es2.length*b≤140737488355328∧es2.length≤140737488355328) (fun v=> D.own t v) (fun v=> Res.row v el n es2)).congr (fun H K=> by simp only[and_assoc])
    ·exact bt _
 case clear n agg z x=> exact bt dst
 case copy n x y=> exact bt dst
 case appmk el n b agg z x c=>
  simp only[bh,cZ]
  split
  ·cases dst with
   | none=> exact bt _
   | some t=>
     cases hc:uT (ev σ c) with
     | none=> exact bt _
     | some p=>
       obtain⟨k,c'⟩:=p
       exact(oo (t:=t) (A:=0≤c'∧c'*b≤140737488355328∧c'≤140737488355328) (fun x=> D.own t x) (fun x=> Res.row x el n (List.replicate c'.toNat (Xy agg z)))).congr (fun H K=> by simp only[and_assoc])
  ·exact bt _
 all_goals exact absurd rfl hro
theorem GY (S:Nat→Spc) (c:COp) (dst:Option Nat) (σ:Sg) (Hr:ab):qbs (c.wid dst) fun H K=> bh S c dst σ Hr H K:=by
 by_cases h: ∃r el n b x y,c= .append (some r) el n b x y
 ·obtain⟨r,el,n,b,x,y,rfl⟩:=h
  intro r0
  simp only[bh,COp.wid]
  refine Vv fun es2=> ?_
  cases ev σ x with
  | own id v=>
    cases r0 with
    | none=>
      refine⟨False,fun _ _=> True,fun H hr K=> ?_⟩
      have hr:H r=none:=hr
      rw[hr]
      exact⟨fun h=> h.2.elim,fun h=> h.1.elim⟩
    | some q=>
      cases q with
      | box b' cs=>
        refine⟨False,fun _ _=> True,fun H hr K=> ?_⟩
        have hr:H r=some (.box b' cs):=hr
        rw[hr]
        exact⟨fun h=> h.2.elim,fun h=> h.1.elim⟩
      | iter b' s' p'=>
        refine⟨False,fun _ _=> True,fun H hr K=> ?_⟩
        have hr:H r=some (.iter b' s' p'):=hr
        rw[hr]
        exact⟨fun h=> h.2.elim,fun h=> h.1.elim⟩
      | tbox b' s' p'=>
        refine⟨False,fun _ _=> True,fun H hr K=> ?_⟩
        have hr:H r=some (.tbox b' s' p'):=hr
        rw[hr]
        exact⟨fun h=> h.2.elim,fun h=> h.1.elim⟩
      | row x' el' n' es=>
        refine⟨id=r∧x'=v∧el'=el∧n'=n∧(es.length+es2.length) *b≤140737488355328∧es.length+es2.length≤140737488355328,fun d u=> ∃v,d= .own r v∧u=some (.row v el n (es++es2)),fun H hr K=> ?_⟩
        have hr:H r=some (.row x' el' n' es):=hr
        rw[hr]
        constructor
        ·rintro⟨h1,h2,h3,h4,h5,h6,h7⟩
         exact⟨⟨h1,h2,h3,h4,h5,h6⟩,fun d u ⟨v,e1,e2⟩=> by subst e1;subst e2;exact h7 v⟩
        ·rintro⟨⟨h1,h2,h3,h4,h5,h6⟩,h7⟩
         exact⟨h1,h2,h3,h4,h5,h6,fun v=> h7 _ _ ⟨v,rfl,rfl⟩⟩
  | _=> exact⟨False,fun _ _=> True,fun H hr K=> ⟨fun h=> h.elim,fun h=> h.1.elim⟩⟩
 ·by_cases hs: ∃r sz x y,c= .store (some r) sz x y
  ·obtain⟨r,sz,x,y,rfl⟩:=hs
   intro r0
   simp only[bh,COp.wid]
   have no: ∃ (pre:Prop) (out:D→Option Res→Prop),∀H,sT H (some r)=r0→ ∀K:D→ab→Prop,False↔ (pre∧ ∀d u,out d u→K d (gF H (some r) u)):=⟨False,fun _ _=> True,fun _ _ _=> ⟨fun h=> h.elim,fun h=> h.1⟩⟩
   have conj: ∀ {A:Prop} {G:ab→(D→ab→Prop)→Prop},(∃ (pre:Prop) (out:D→Option Res→Prop),∀H,sT H (some r)=r0→ ∀K,G H K↔ (pre∧ ∀d u,out d u→K d (gF H (some r) u)))→
    ∃ (pre:Prop) (out:D→Option Res→Prop),∀H,sT H (some r)=r0→ ∀K,(A∧G H K) ↔ (pre∧ ∀d u,out d u→K d (gF H (some r) u)):=fun {A G} h=> by
    obtain⟨pre,out,h⟩:=h
    exact⟨A∧pre,out,fun H hr K=> by rw[h H hr K,and_assoc]⟩
   refine conj (conj ?_)
   cases ev σ x with
   | bptr id b off=>
     refine conj ?_
     cases r0 with
     | none=>
       refine⟨False,fun _ _=> True,fun H hr K=> ?_⟩
       have hr:H r=none:=hr
       rw[hr]
       exact⟨fun h=> h.elim,fun h=> h.1.elim⟩
     | some q=>
       cases q with
       | box b' cs=>
         refine⟨b'=b∧off+sz≤cs.length,fun d u=> d= .undef∧u=some (.box b' (setAt cs off (ev σ y).cells)),fun H hr K=> ?_⟩
         have hr:H r=some (.box b' cs):=hr
         rw[hr]
         constructor
         ·rintro⟨h1,h2,h3⟩
          exact⟨⟨h1,h2⟩,fun d u ⟨e1,e2⟩=> by subst e1;subst e2;exact h3⟩
         ·rintro⟨⟨h1,h2⟩,h3⟩
          exact⟨h1,h2,h3 _ _ ⟨rfl,rfl⟩⟩
       | row x' el' n' es=>
         refine⟨False,fun _ _=> True,fun H hr K=> ?_⟩
         have hr:H r=some (.row x' el' n' es):=hr
         rw[hr]
         exact⟨fun h=> h.elim,fun h=> h.1.elim⟩
       | iter b' s' p'=>
         refine⟨False,fun _ _=> True,fun H hr K=> ?_⟩
         have hr:H r=some (.iter b' s' p'):=hr
         rw[hr]
         exact⟨fun h=> h.elim,fun h=> h.1.elim⟩
       | tbox b' s' p'=>
         refine⟨False,fun _ _=> True,fun H hr K=> ?_⟩
         have hr:H r=some (.tbox b' s' p'):=hr
         rw[hr]
         exact⟨fun h=> h.elim,fun h=> h.1.elim⟩
   | eptr id v n i off=>
     refine conj ?_
     cases r0 with
     | none=>
       refine⟨False,fun _ _=> True,fun H hr K=> ?_⟩
       have hr:H r=none:=hr
       rw[hr]
       exact⟨fun h=> h.elim,fun h=> h.1.elim⟩
     | some q=>
       cases q with
       | row x' el' n' es=>
         refine⟨x'=v∧n'=n∧0 < n∧off+sz≤n∧i < es.length,fun d u=> d= .undef∧ ∃e,es[i]?=some e∧u=some (.row x' el' n' (es.set i (if off=0∧sz=n then ev σ y else .agg (setAt e.cells off (ev σ y).cells)))),fun H hr K=> ?_⟩
         have hr:H r=some (.row x' el' n' es):=hr
         rw[hr]
         constructor
         ·rintro⟨h1,h2,h3,h4,h5,h6⟩
          exact⟨⟨h1,h2,h3,h4,h5⟩,fun d u ⟨e1,e,e2,e3⟩=> by subst e1;subst e3;exact h6 e e2⟩
         ·rintro⟨⟨h1,h2,h3,h4,h5⟩,h6⟩
          exact⟨h1,h2,h3,h4,h5,fun e he=> h6 _ _ ⟨rfl,e,he,rfl⟩⟩
       | box b' cs=>
         refine⟨False,fun _ _=> True,fun H hr K=> ?_⟩
         have hr:H r=some (.box b' cs):=hr
         rw[hr]
         exact⟨fun h=> h.elim,fun h=> h.1.elim⟩
       | iter b' s' p'=>
         refine⟨False,fun _ _=> True,fun H hr K=> ?_⟩
         have hr:H r=some (.iter b' s' p'):=hr
         rw[hr]
         exact⟨fun h=> h.elim,fun h=> h.1.elim⟩
       | tbox b' s' p'=>
         refine⟨False,fun _ _=> True,fun H hr K=> ?_⟩
         have hr:H r=some (.tbox b' s' p'):=hr
         rw[hr]
         exact⟨fun h=> h.elim,fun h=> h.1.elim⟩
   | _=> exact no
  by_cases hb: ∃r f args,c= .callb r f args
  ·obtain⟨r,f,args,rfl⟩:=hb
   intro r0
   simp only[bh,COp.wid]
   have no: ∃ (pre:Prop) (out:D→Option Res→Prop),∀H,sT H (some r)=r0→ ∀K:D→ab→Prop,False↔ (pre∧ ∀d u,out d u→K d (gF H (some r) u)):=⟨False,fun _ _=> True,fun _ _ _=> ⟨fun h=> h.elim,fun h=> h.1⟩⟩
   cases hs:S f with
   | none=> exact no
   | pure pc=> exact no
   | gen A hA=>
     by_cases hx:qbt r A (args.map (ev σ))
     ·obtain⟨p,o,h⟩:=id hx
      refine⟨p r0,fun d u=> ∃u',u=some u'∧o r0 d u',fun H hr K=> ?_⟩
      have hr:H r=r0:=hr
      simp only[Gn]
      rw[h,hr]
      constructor
      ·rintro⟨_,a,b⟩
       exact⟨a,fun d u ⟨u',e,h1⟩=> by subst e;exact b d u' h1⟩
      ·rintro⟨a,b⟩
       exact⟨hx,a,fun d u h1=> b d (some u) ⟨u,rfl,h1⟩⟩
     ·exact⟨False,fun _ _=> True,fun H _ K=> ⟨fun h=> absurd h.1 hx,fun h=> h.1.elim⟩⟩
  have hw:c.wid dst=dst:=by
   cases c
   case callb r f args=> exact absurd ⟨r,f,args,rfl⟩ hb
   case append rt el n b x y=>
    cases rt with
    | none=> rfl
    | some r=> exact absurd ⟨r,el,n,b,x,y,rfl⟩ h
   case store rt sz x y=>
    cases rt with
    | none=> rfl
    | some r=> exact absurd ⟨r,sz,x,y,rfl⟩ hs
   all_goals rfl
  rw[hw]
  exact(Sy S c dst σ Hr (fun r el n b x y e=> h ⟨r,el,n,b,x,y,e⟩) (fun r sz x y e=> hs ⟨r,sz,x,y,e⟩) (fun r f args e=> hb ⟨r,f,args,e⟩)).lin
theorem GZ (S:Nat→Spc) (x:CI) (σ:Sg) (Hr:ab):qbs x.wid fun H K=> IK S x σ Hr H K:=by
 cases x with
 | frz t n=> exact(bt _).lin
 | op dst g c=>
   intro r0
   obtain⟨pre,out,h⟩:=GY S c dst σ Hr r0
   have h': ∀H,sT H (c.wid dst)=r0→ ∀K,bh S c dst σ Hr H K↔ (pre∧ ∀d u,out d u→K d (gF H (c.wid dst) u)):=h
   cases g with
   | none=> exact⟨pre,out,h⟩
   | some sb=>
     obtain⟨s,b⟩:=sb
     simp only[IK,CI.wid]
     split
     ·rename_i t e1
      refine⟨t=b→pre,fun d u=> (t=b∧out d u)∨(t=(!b)∧d= .undef∧u=none),fun H hr K=> ?_⟩
      rw[h' H hr K]
      constructor
      ·rintro⟨h1,h2⟩
       refine⟨fun e=> (h1 e).1,fun d u hd=> ?_⟩
       rcases hd with⟨e,hd⟩ | ⟨e,rfl,rfl⟩
       ·exact(h1 e).2 d u hd
       ·rw[lT];exact h2 e
      ·rintro⟨h1,h2⟩
       refine⟨fun e=> ⟨h1 e,fun d u hd=> h2 d u (.inl ⟨e,hd⟩)⟩,fun e=> ?_⟩
       have:=h2 .undef none (.inr ⟨e,rfl,rfl⟩)
       rwa [lT] at this
     ·exact⟨True,fun d u=> d= .undef∧u=none,fun H _ K=> ⟨fun h=> ⟨trivial,fun d u ⟨h1,h2⟩=> by subst h1;subst h2;rw[lT];exact h⟩,fun h=> by have:=h.2 .undef none ⟨rfl,rfl⟩;rwa [lT] at this⟩⟩
     ·exact(bt _).lin r0
theorem yB {σ σ':Sg} : ∀ (ps:List (Nat×Nat×Operand)) (cs:List D) (K:List D→Prop),(∀x∈ps.map (·.2.2),ev σ x=ev σ' x)→(jR σ ps cs K↔jR σ' ps cs K)
 | [],cs,K,_=> Iff.rfl
 | (off,sz,x)::r,cs,K,h=> by
  have hx:=h x (by simp)
  simp only[jR,hx]
  rw[yB r _ K (fun y hy=> h y (by simp at hy ⊢;exact .inr hy))]
theorem Gj {c:COp} {σ σ':Sg} {Hr:ab} {K:D→Prop} (h: ∀x∈c.ops,ev σ x=ev σ' x):aM c σ Hr K↔aM c σ' Hr K:=by
 cases c
 case build z ps=> simp only[aM];exact yB ps _ _ h
 case box el im x=> cases im <;> simp only[aM];rw[h x (by simp[COp.ops])]
 case bslice el n ps=>
  have h': ∀x∈ps,ev σ x=ev σ' x:=h
  simp only[aM];rw[List.map_congr_left h']
 case clo f caps=>
  have h': ∀x∈caps,ev σ x=ev σ' x:=h
  simp only[aM];rw[List.map_congr_left h']
 case slice n x lo hi=>
  simp only[aM]
  rw[h x (by simp[COp.ops])]
  have h1:lo.map (fun o=> uT (ev σ o))=lo.map (fun o=> uT (ev σ' o)):=by cases lo <;> simp;rw[h _ (by simp[COp.ops])]
  have h2:hi.map (fun o=> uT (ev σ o))=hi.map (fun o=> uT (ev σ' o)):=by cases hi <;> simp;rw[h _ (by simp[COp.ops])]
  rw[h1,h2]
 case sslice x lo hi=>
  simp only[aM]
  rw[h x (by simp[COp.ops])]
  have h1:lo.map (fun o=> uT (ev σ o))=lo.map (fun o=> uT (ev σ' o)):=by cases lo <;> simp;rw[h _ (by simp[COp.ops])]
  have h2:hi.map (fun o=> uT (ev σ o))=hi.map (fun o=> uT (ev σ' o)):=by cases hi <;> simp;rw[h _ (by simp[COp.ops])]
  rw[h1,h2]
 case mm mx xs=>
  match xs with
  | []=> simp[aM]
  | [x]=> simp[aM]
  | [x,y]=> simp only[aM];rw[h x (by simp[COp.ops]),h y (by simp[COp.ops])]
  | [x,y,z]=> simp only[aM];rw[h x (by simp[COp.ops]),h y (by simp[COp.ops]),h z (by simp[COp.ops])]
  | _::_::_::_::_=> simp[aM]
 case pick q x y=> simp only[aM];rw[h q (by simp[COp.ops]),h x (by simp[COp.ops]),h y (by simp[COp.ops])]
 all_goals simp only[aM]
 all_goals first
  | (rename_i x;rw[h x (by simp[COp.ops])];done)
  | (rename_i x y;rw[h x (by simp[COp.ops]),h y (by simp[COp.ops])];done)
  | (rename_i x i;rw[h x (by simp[COp.ops])];done)
  | skip
theorem Sa {S:Nat→Spc} {c:COp} {dst:Option Nat} {σ σ':Sg} {Hr H:ab} {K:D→ab→Prop} (h: ∀x∈c.ops,ev σ x=ev σ' x):bh S c dst σ Hr H K↔bh S c dst σ' Hr H K:=by
 cases c
 case call f args=>
  simp only[bh]
  rw[List.map_congr_left (fun x hx=> h x (by simpa [COp.ops] using hx))]
 case callv f args=>
  simp only[bh]
  rw[h f (by simp[COp.ops]),List.map_congr_left (fun x hx=> h x (by simp[COp.ops,hx]))]
 case callb r f args=>
  simp only[bh]
  rw[List.map_congr_left (fun x hx=> h x (by simpa [COp.ops] using hx))]
 case alloc el z=> exact Iff.rfl
 case box el im x=>
  cases im with
  | true=> exact(nB rfl).trans ((Gj h).trans (nB rfl).symm)
  | false=> simp only[bh,cZ];rw[h x (by simp[COp.ops])]
 case tbx el x=> simp only[bh,cZ];rw[h x (by simp[COp.ops])]
 case nslice el n=> exact Iff.rfl
 case mslice el n ps=>
  have h': ∀x∈ps,ev σ x=ev σ' x:=h
  simp only[bh,cZ];rw[List.map_congr_left h']
 case mkslice el n b agg z l cc=> simp only[bh,cZ];rw[h l (by simp[COp.ops]),h cc (by simp[COp.ops])]
 case store rt sz x y=> simp only[bh];rw[h x (by simp[COp.ops]),h y (by simp[COp.ops])]
 case srange x=> exact Iff.rfl
 case snext x=> exact Iff.rfl
 case append rt el n b x y=>
  simp only[bh]
  rw[h x (by simp[COp.ops]),h y (by simp[COp.ops])]
 case clear n agg z x=> exact Iff.rfl
 case copy n x y=> exact Iff.rfl
 case appmk el n b agg z x c=> simp only[bh,cZ];rw[h x (by simp[COp.ops]),h c (by simp[COp.ops])]
 all_goals exact(nB rfl).trans ((Gj h).trans (nB rfl).symm)
def Zl:Operand→List Nat
 | .tmp t=> [t]
 | _=> []
def CI.reads:CI→List Nat
 | .op _ g c=> c.ops.flatMap Zl++ (match g with | some (s,_)=> [s] | none=> [])
 | .frz _ _=> []
theorem Ct {S:Nat→Spc} {x:CI} {σ σ':Sg} {Hr H:ab} {K:D→ab→Prop} (h: ∀t∈x.reads,σ t=σ' t):IK S x σ Hr H K↔IK S x σ' Hr H K:=by
 cases x with
 | frz t n=> exact Iff.rfl
 | op dst g c=>
   have hev: ∀y∈c.ops,ev σ y=ev σ' y:=fun y hy=> by
    cases y with
    | tmp t=> exact h t (by simp only[CI.reads,List.mem_append,List.mem_flatMap];exact .inl ⟨_,hy,by simp[Zl]⟩)
    | _=> rfl
   have hp:=Sa (S:=S) (dst:=dst) (Hr:=Hr) (H:=H) (K:=K) hev
   cases g with
   | none=> exact hp
   | some sb=>
     obtain⟨s,b⟩:=sb
     simp only[IK]
     rw[←h s (by simp[CI.reads])]
     split
     ·rw[hp]
     ·exact Iff.rfl
     ·exact Iff.rfl
end Go.Gv

namespace Go.Gv
def OA (Hr H:ab):Prop:= ∀i r,Hr i=some r→H i=some r
theorem R6 {c:COp} {σ:Sg} {Hr H:ab} {K:D→Prop} (hle:OA Hr H) (hv:aM c σ Hr K):aM c σ H K:=by
 cases c
 case load agg sz x=>
  simp only[aM] at hv ⊢
  split at hv
  ·exact hv
  ·split at hv
   ·rename_i h;rw[hle _ _ h];exact hv
   ·exact hv.elim
  ·split at hv
   ·rename_i h;rw[hle _ _ h];exact hv
   ·exact hv.elim
  ·exact hv.elim
 case iaddr n x i=>
  simp only[aM] at hv ⊢
  split at hv
  ·split at hv
   ·exact hv
   ·split at hv
    ·rename_i h;rw[hle _ _ h];exact hv
    ·exact hv.elim
   ·exact hv
   ·exact hv.elim
  ·exact hv.elim
 case slice n x lo hi=>
  simp only[aM] at hv ⊢
  split at hv
  ·exact hv
  ·split at hv
   ·rename_i h;rw[hle _ _ h];exact hv
   ·exact hv.elim
  ·exact hv
  ·exact hv
  ·exact hv.elim
 case bstr x=>
  simp only[aM] at hv ⊢
  split at hv
  ·split at hv
   ·rename_i h;rw[hle _ _ h];exact hv
   ·exact hv.elim
  ·exact hv
  ·exact hv.elim
 case len x=>
  simp only[aM] at hv ⊢
  split at hv
  ·exact hv
  ·split at hv
   ·rename_i h;rw[hle _ _ h];exact hv
   ·exact hv.elim
  ·exact hv
  ·exact hv
  ·exact hv.elim
 case box el im x=> cases im <;> exact hv
 case mm mx xs=>
  match xs,hv with
  | [],hv=> exact hv
  | [x],hv=> exact hv
  | [x,y],hv=> exact hv
  | [x,y,z],hv=> exact hv
  | _::_::_::_::_,hv=> exact hv
 all_goals exact hv
theorem Z4 {n:Nat} {d:D} {Hr H:ab} {K K':List D→Prop} (hle:OA Hr H) (hk: ∀l,K l→K' l) (h:l8 n d Hr K):l8 n d H K':=by
 unfold l8 at h ⊢
 split at h <;> (try simp only at h ⊢)
 ·exact⟨h.1,hk _ h.2⟩
 ·split at h
  ·rename_i e
   rw[hle _ _ e]
   exact⟨h.1,h.2.1,hk _ h.2.2⟩
  ·exact h.elim
 ·exact hk _ h
 ·split at h
  ·rename_i e
   rw[hle _ _ e]
   exact⟨h.1,h.2.1,h.2.2.1,hk _ h.2.2.2⟩
  ·exact h.elim
theorem UR {S:Nat→Spc} {c:COp} {dst:Option Nat} {σ:Sg} {Hr H:ab} {K:D→ab→Prop} (hle:OA Hr H) (hv:bh S c dst σ Hr H K):bu S c dst σ H K:=by
 by_cases hro:c.isRead=true
 ·have h:=R6 hle ((nB hro).1 hv)
  cases c <;> first | exact h | (simp[COp.isRead] at hro;done) | skip
  rename_i el im x
  cases im
  ·simp[COp.isRead] at hro
  ·exact h
 ·cases c
  case call f args=>
   simp only[bh] at hv
   simp only[bu]
   cases h:S f with
   | pure pc=> rw[h] at hv;exact hv
   | none=> rw[h] at hv;exact hv.elim
   | gen A hA=>
     rw[h] at hv
     cases dst with
     | none=> exact hv.elim
     | some t=> exact hv.2
  case callv f args=>
   simp only[bh] at hv
   simp only[bu]
   split at hv
   ·rename_i e1
    rw[e1]
    split at hv
    ·rename_i pc h;simp only[h];exact hv
    ·exact hv.elim
   ·exact hv.elim
  case callb r f args=>
   simp only[bh] at hv
   simp only[bu]
   cases h:S f with
   | pure pc=> rw[h] at hv;exact hv.elim
   | none=> rw[h] at hv;exact hv.elim
   | gen A hA=> rw[h] at hv;exact hv.2
  case tbx el x=> exact hv
  case box el im x=>
   cases im
   ·exact hv
   ·exact absurd rfl hro
  case store rt sz x y=>
   obtain⟨h1,h2,hv⟩:=hv
   simp only[bu,cZ]
   refine⟨h1,h2,?_⟩
   cases rt with
   | none=> exact hv.elim
   | some r=>
     simp only at hv
     split at hv
     ·rename_i id b off e1
      rw[e1]
      obtain⟨rfl,hv⟩:=hv
      exact hv
     ·rename_i id v n i off e1
      rw[e1]
      obtain⟨rfl,hv⟩:=hv
      exact hv
     ·exact hv.elim
  case srange x=> exact hv.elim
  case snext x=> exact hv.elim
  case append rt el n b x y=>
   simp only[bh] at hv
   simp only[bu,cZ]
   refine Z4 hle ?_ hv
   intro es2 h
   cases rt with
   | none=>
     simp only at h
     split at h
     ·rename_i t e1 e2
      rw[e2]
      exact h
     ·exact h.elim
   | some r=>
     simp only at h
     split at h
     ·rename_i id v e1
      rw[e1]
      obtain⟨rfl,h⟩:=h
      simp only
      split at h
      ·rename_i e2
       rw[e2]
       exact h
      ·exact h.elim
     ·exact h.elim
  case clear n agg z x=> exact hv.elim
  case copy n x y=> exact hv.elim
  case appmk el n b agg z x c=> exact hv
  case alloc el z=> exact hv
  case nslice el n=> exact hv
  case mslice el n ps=> exact hv
  case mkslice el n b agg z l cc=> exact hv
  all_goals exact absurd rfl hro
theorem RA {P:Program} {o:Oper} {a:Act} {w:World} {next:Act→World→Prop} (h:o.wp P a w next fun _ _ _=> False): ∃a' w',next a' w':=by
 unfold Oper.wp at h
 generalize (execOp a.eval o).run P w=r at h
 cases r with
 | ok nx w'=>
   cases nx <;> simp only[Oper.upon] at h <;> first | exact⟨_,_,h⟩ | exact h.elim | skip
   case enter f args=>
    obtain⟨e,w'',fr,hR,_⟩:=h []
    cases e with
    | returned v=> exact⟨_,_,hR⟩
    | panicked c=> exact hR.elim
    | outgrown=> obtain⟨_,_,hf⟩:=hR;exact hf.elim
   case row row args=>
    obtain⟨v,w'',hR,_⟩:=h default []
    exact⟨_,_,hR⟩
 | halt x w'=> cases x <;> simp only[Oper.upon] at h
section
variable {P:Program} {im:List Nat} {E:pR} {S:Nat→Spc} {ops:Array Oper}
theorem jn {N:Nat} {o:Oper} {x:CI} (h:dE P im N ops o=some x): ∃g c,x= .op o.dst g c∧em P im o=some c∧E5 ops o=some g∧ ∀t,o.dst=some t→t < N:=by
 unfold dE at h
 simp only[Option.bind_eq_bind,Option.bind_eq_some_iff] at h
 obtain⟨c,hc,g,hg,h⟩:=h
 split at h
 ·rename_i hd
  cases h
  exact⟨g,c,rfl,hc,hg,P3 hd⟩
 ·cases h
theorem Jv {o:Oper} {x:CI} {σ:Sg} {Hr H:ab} {a:Act} {w:World} {K:D→ab→Prop} {z:List PanicEntry→Prop} (hS:dS P z S x) (hx:dE P im E.N ops o=some x) (hst:St E σ H a w) (hle:OA Hr H) (hv:IK S x σ Hr H K)
 {next:Act→World→Prop} {Q:Exit→Act→World→Prop} (hpan: ∀c w',Oq E z c w'→Q (.panic c) a w') (hnext: ∀r H' v w',K r H'→St E (f9 σ o.dst r) H' (a.put o.dst v) w'→next (a.put o.dst v) w'):
 if Region.wanted o (yielded ops a.tmps) then o.wp P a w next Q else next (a.put o.dst undef) w:=by
 obtain⟨g,c,rfl,hc,hg,hdst⟩:=jn hx
 have hst0:=hst
 obtain⟨hd,hN,tp,hw,hr⟩:=hst
 have hgv:nY g σ (fun σ'=> σ'=σ→bh S c o.dst σ Hr H K) (fun σ'=> σ'=σ→K .undef H):=by
  cases g with
  | none=> exact fun _=> hv
  | some sb=>
    obtain⟨s,b⟩:=sb
    simp only[IK] at hv
    simp only[nY]
    split at hv
    ·rename_i e1
     try rw[e1]
     exact⟨fun e _=> hv.1 e,fun e _=> hv.2 e⟩
    ·rename_i e1
     try rw[e1]
     exact fun _=> hv
    ·exact hv.elim
 rcases rN hg hr hgv with⟨hwant,hyes⟩ | ⟨hwant,hno⟩
 ·rw[if_pos hwant]
  exact xt hS hc hw hd hN hr hdst (UR hle (hyes rfl)) hpan hnext
 ·rw[if_neg (by simp[hwant])]
  exact hnext _ _ _ _ (hno rfl) (hst0.skip o.dst hdst)
theorem Ps {o:Oper} {x:CI} {σ:Sg} {Hr H:ab} {a:Act} {w:World} {K:D→ab→Prop} (hS0:dS P JC S x) (hx:dE P im E.N ops o=some x) (hst:St E σ H a w) (hle:OA Hr H) (hv:IK S x σ Hr H K):
 ∃r H' a' w',K r H'∧St E (f9 σ o.dst r) H' a' w':=by
 have h:=Jv (Q:=fun _ _ _=> False) (next:=fun a' w'=> ∃r H',K r H'∧St E (f9 σ o.dst r) H' a' w') hS0 hx hst hle hv (fun c w' h=> h.1) (fun r H' v w' hk hs=> ⟨r,H',hk,hs⟩)
 split at h
 ·obtain⟨a',w',r,H',hk,hs⟩:=RA h
  exact⟨r,H',a',w',hk,hs⟩
 ·obtain⟨r,H',hk,hs⟩:=h
  exact⟨r,H',_,_,hk,hs⟩
def iP (x y:CI):Bool:=
 (match x.dst with | some d=> !y.reads.contains d | none=> true) && (match y.dst with | some e=> !x.reads.contains e | none=> true) &&
 (match x.dst,y.dst with | some d,some e=> d !=e | _,_=> true) && (match x.wid,y.wid with | some p,some q=> p !=q | _,_=> true)
theorem H6 {x y:CI} (h:iP x y=true): (∀d,x.dst=some d→d∉y.reads)∧(∀e,y.dst=some e→e∉x.reads)∧(∀d e,x.dst=some d→y.dst=some e→d≠e)∧(∀p q,x.wid=some p→y.wid=some q→p≠q):=by
 unfold iP at h
 simp only[Bool.and_eq_true] at h
 obtain⟨⟨⟨h1,h2⟩,h3⟩,h4⟩:=h
 refine⟨fun d hd=> ?_,fun e he=> ?_,fun d e hd he=> ?_,fun p q hp hq=> ?_⟩
 ·rw[hd] at h1;simpa using h1
 ·rw[he] at h2;simpa using h2
 ·rw[hd,he] at h3;simpa using h3
 ·rw[hp,hq] at h4;simpa using h4
theorem Z9 {H:ab} {p q:Nat} (h:p≠q) (u:Option Res):sT (gF H (some p) u) (some q)=sT H (some q):=by
 cases u with
 | none=> rfl
 | some r=>
   simp only[gF,sT,au]
   rw[if_neg (fun e=> h e.symm)]
theorem RU {σ:Sg} {t s:Nat} (h:t≠s) (d e:D):f9 (f9 σ (some t) d) (some s) e=f9 (f9 σ (some s) e) (some t) d:=by
 funext k
 simp only[f9,l5]
 by_cases h1:k=s
 ·by_cases h2:k=t
  ·exact absurd (h2.symm.trans h1) h
  ·simp[h1,h2];intro h3;exact absurd h3.symm h
 ·simp[h1]
theorem Tq {H:ab} {t s:Nat} (h:t≠s) (u v:Option Res):gF (gF H (some t) u) (some s) v=gF (gF H (some s) v) (some t) u:=by
 cases u <;> cases v <;> simp only[gF]
 funext k
 simp only[au]
 by_cases h1:k=s
 ·by_cases h2:k=t
  ·exact absurd (h2.symm.trans h1) h
  ·simp[h1,h2];intro h3;exact absurd h3.symm h
 ·simp[h1]
theorem OP {σ:Sg} {t s:Option Nat} (h: ∀d e,t=some d→s=some e→d≠e) (d e:D):f9 (f9 σ t d) s e=f9 (f9 σ s e) t d:=by
 cases t with
 | none=> rfl
 | some t=>
   cases s with
   | none=> rfl
   | some s=> exact RU (h t s rfl rfl) d e
theorem Qe {H:ab} {t s:Option Nat} (h: ∀d e,t=some d→s=some e→d≠e) (u v:Option Res):gF (gF H t u) s v=gF (gF H s v) t u:=by
 cases t with
 | none=> rfl
 | some t=>
   cases s with
   | none=> rfl
   | some s=> exact Tq (h t s rfl rfl) u v
theorem K7 {H:ab} {p q:Option Nat} (h: ∀d e,p=some d→q=some e→d≠e) (u:Option Res):sT (gF H p u) q=sT H q:=by
 cases p with
 | none=> rfl
 | some p=>
   cases q with
   | none=> rfl
   | some q=> exact Z9 (h p q rfl rfl) u
theorem UF {σ:Sg} {t:Nat} {d:D} {l:List Nat} (h:t∉l): ∀s∈l,f9 σ (some t) d s=σ s:=by
 intro s hs
 simp only[f9,l5]
 rw[if_neg (fun e=> h (by rw[←e];exact hs))]
theorem BX {σ:Sg} {t:Option Nat} {d:D} {l:List Nat} (h: ∀s,t=some s→s∉l): ∀s∈l,f9 σ t d s=σ s:=by
 cases t with
 | none=> exact fun _ _=> rfl
 | some t=> exact UF (h t rfl)
theorem MA {x:CI×ab} {K:Sg→ab→Prop} : ∀ (l1 l2:List (CI×ab)) (σ:Sg) (H:ab),(∀y∈l1,iP y.1 x.1=true)→Xz S (l1++x::l2) σ H K→ ∀ (r0:Option Res),sT H x.1.wid=r0→
 ∀ (pre:Prop) (out:D→Option Res→Prop),(∀H,sT H x.1.wid=r0→ ∀K,IK S x.1 σ x.2 H K↔ (pre∧ ∀d u,out d u→K d (gF H x.1.wid u)))→ ∀d u,out d u→Xz S (l1++l2) (f9 σ x.1.dst d) (gF H x.1.wid u) K
 | [],l2,σ,H,_,hv,r0,hr0,pre,out,hform,d,u,hout=> ((hform H hr0 _).1 hv).2 d u hout
 | y::l1,l2,σ,H,hap,hv,r0,hr0,pre,out,hform,d,u,hout=> by
   obtain⟨h1,h2,h3,h4⟩:=H6 (hap y (by simp))
   obtain⟨qy,oy,hyf⟩:=GZ S y.1 σ y.2 (sT H y.1.wid)
   have hyf: ∀H',sT H' y.1.wid=sT H y.1.wid→ ∀K,IK S y.1 σ y.2 H' K↔ (qy∧ ∀d u,oy d u→K d (gF H' y.1.wid u)):=hyf
   have hv':=(hyf H rfl _).1 hv
   have hcong: ∀H K,IK S y.1 (f9 σ x.1.dst d) y.2 H K↔IK S y.1 σ y.2 H K:=fun H K=> by
    exact Ct (BX h2)
   have e1:sT (gF H x.1.wid u) y.1.wid=sT H y.1.wid:=K7 (fun d e hd he q=> h4 e d he hd q.symm) u
   refine(hcong _ _).2 ((hyf _ e1 _).2 ⟨hv'.1,fun e v hev=> ?_⟩)
   have hk:=hv'.2 e v hev
   have hform': ∀H,sT H x.1.wid=r0→ ∀K,IK S x.1 (f9 σ y.1.dst e) x.2 H K↔ (pre∧ ∀d u,out d u→K d (gF H x.1.wid u)):=fun H hr K=> by
    rw[←hform H hr K]
    exact Ct (BX h1)
   have e2:sT (gF H y.1.wid v) x.1.wid=r0:=by rw[←hr0];exact K7 h4 v
   have:=MA l1 l2 (f9 σ y.1.dst e) (gF H y.1.wid v) (fun z hz=> hap z (by simp[hz])) hk r0 e2 pre out hform' d u hout
   rwa [OP h3 e d,Qe h4 v u] at this
theorem Jf {x:CI×ab} {K:Sg→ab→Prop} : ∀ (l1 l2:List (CI×ab)) (σ:Sg) (H:ab) (a:Act) (w:World),(∀y∈l1,dS P JC S y.1)→(∀y∈l1,iP y.1 x.1=true)→
 (∀y∈l1,∃o,dE P im E.N ops o=some y.1)→(l1.Pairwise fun y z=> ∀t,y.1.wid=some t→z.2 t=none)→(∀y∈l1,∀t,y.1.wid=some t→x.2 t=none)→St E σ H a w→(∀y∈l1,OA y.2 H)→OA x.2 H→Xz S (l1++x::l2) σ H K→ ∀ (r0:Option Res),sT H x.1.wid=r0→
 ∀ (pre:Prop) (out:D→Option Res→Prop),(∀H,sT H x.1.wid=r0→ ∀K,IK S x.1 σ x.2 H K↔ (pre∧ ∀d u,out d u→K d (gF H x.1.wid u)))→pre
 | [],l2,σ,H,a,w,_,_,_,_,_,_,_,_,hv,r0,hr0,pre,out,hform=> ((hform H hr0 _).1 hv).1
 | y::l1,l2,σ,H,a,w,hqu,hap,hcomp,hban,hbx,hst,hle,hlx,hv,r0,hr0,pre,out,hform=> by
   obtain⟨h1,h2,h3,h4⟩:=H6 (hap y (by simp))
   obtain⟨o,ho⟩:=hcomp y (by simp)
   have hdst:y.1.dst=o.dst:=by
    obtain⟨g,c,hxe,_⟩:=jn ho;rw[hxe];rfl
   obtain⟨hb1,hb2⟩:=List.pairwise_cons.1 hban
   have keep: ∀ (Hr:ab),OA Hr H→(∀t,y.1.wid=some t→Hr t=none)→ ∀u,OA Hr (gF H y.1.wid u):=fun Hr hh hb u i r hi=> by
    cases u with
    | none=> rw[lT];exact hh i r hi
    | some u=>
      cases hyw:y.1.wid with
      | none=> exact hh i r hi
      | some py=>
        simp only[gF,au]
        have hne:i≠py:=fun e=> by
         have:=hb py hyw
         rw[e,this] at hi
         cases hi
        rw[if_neg hne]
        exact hh i r hi
   obtain⟨qy,oy,hyf⟩:=GZ S y.1 σ y.2 (sT H y.1.wid)
   have hyf: ∀H',sT H' y.1.wid=sT H y.1.wid→ ∀K,IK S y.1 σ y.2 H' K↔ (qy∧ ∀d u,oy d u→K d (gF H' y.1.wid u)):=hyf
   have hv':=(hyf H rfl _).1 hv
   have hv2:IK S y.1 σ y.2 H fun d H'=> Xz S (l1++x::l2) (f9 σ y.1.dst d) H' K∧((∀z∈l1,OA z.2 H')∧OA x.2 H')∧sT H' x.1.wid=r0:=(hyf H rfl _).2 ⟨hv'.1,fun d u hout=> ⟨hv'.2 d u hout,⟨fun z hz=> keep z.2 (hle z (by simp[hz])) (hb1 z hz) u,keep x.2 hlx (hbx y (by simp)) u⟩,by rw[←hr0];exact K7 h4 u⟩⟩
   obtain⟨r,H',a',w',⟨hk,hle',hr'⟩,hst'⟩:=Ps (hqu y (by simp)) ho hst (hle y (by simp)) hv2
   rw[←hdst] at hst'
   have hform': ∀H,sT H x.1.wid=r0→ ∀K,IK S x.1 (f9 σ y.1.dst r) x.2 H K↔ (pre∧ ∀d u,out d u→K d (gF H x.1.wid u)):=fun H hr K=> by
    rw[←hform H hr K]
    exact Ct (BX h1)
   exact Jf l1 l2 _ H' a' w' (fun z hz=> hqu z (by simp[hz])) (fun z hz=> hap z (by simp[hz])) (fun z hz=> hcomp z (by simp[hz])) hb2 (fun z hz=> hbx z (by simp[hz])) hst' hle'.1 hle'.2 hk r0 hr' pre out hform'
end
end Go.Gv
