/- A part of the framework and of the walks: T6. -/
import Derived.Test.YtphdikcommfnhaaGreatDoorGg13
set_option linter.unusedSimpArgs false
set_option linter.unusedVariables false
set_option linter.unusedSectionVars false

namespace Go.Gv
inductive Ex where
 | norm
 | ex (id:Nat)
 | ret
inductive CC where
 | skip
 | reg (l:List CI)
 | regd (pre tl:List CI)
 | seq (a b:CC)
 | ite (c:Operand) (a b:CC)
 | block (id:Nat) (b:CC)
 | loop (key:Nat) (b:CC)
 | exit (id:Nat)
 | ret
 | cut (key:Nat) (c:CC)
 | keep (ls lh:List Nat) (c:CC)
structure qhm where
 X:Type
 P:X->Prop
 s:X->Sg
 h:X->ab
 m:X->Nat
def Wk(σ:Sg)(H:ab)(σ':Sg)(H':ab):Prop:=∀ (E:xn) (a:Act) (w:World),St E σ H a w->St E σ' H' a w
def Qs(a b:D):Prop:=
 match b with
 | .any=>True
 | .own _ x=>a= .v x\/ ∃i,a= .own i x
 | .list n es=>a= .list n es\/(a= .v (.slice none 0 0)/\es=[])
 | b=>a=b
def isNilRow:Res->Prop
 | .row x _ _ es=>x= .slice none 0 0/\es=[]
 | _=>False
def sI:List (Nat×D)->Sg->Prop
 | [],_=>True
 | (t,d)::l,σ=>Qs (σ t) d/\sI l σ
def wU:List (Nat×Res)->ab->Prop
 | [],_=>True
 | (i,r)::l,H=>(H i=some r\/isNilRow r)/\wU l H
def qmc:List (Nat×D)->Sg
 | []=>fun _=> .any
 | (t,d)::l=>upd (qmc l) t d
def iJ(ls:List Nat)(σ:Sg):Sg:=qmc (ls.map fun t=>(t,σ t))
def jy:List Nat->ab->ab
 | [],_=>fun _=>none
 | i::l,H=>ah (jy l H) i (H i)
def vc(S:Nat->Spc):CC->(Ex->Sg->ab->Prop)->Sg->ab->Prop
 | .skip,K,σ,H=>K .norm σ H
 | .reg l,K,σ,H=>B2 S l σ H (K .norm)
 | .regd pre tl,K,σ,H=>lw S pre σ (bh pre H) H fun σ H=>B2 S tl σ H (K .norm)
 | .seq a b,K,σ,H=>vc S a (fun e σ H=>match e with
   | .norm=>vc S b K σ H
   | e=>K e σ H) σ H
 | .ite c a b,K,σ,H=>match ev σ c with
   | .v (.bool t)=>(t=true->vc S a K σ H)/\(t=false->vc S b K σ H)
   | _=>False
 | .block id b,K,σ,H=>vc S b (fun e σ H=>match e with
   | .ex i=>if i=id then K .norm σ H else K (.ex i) σ H
   | e=>K e σ H) σ H
 | .loop _ b,K,σ,H=>∃inv:qhm,(∃x,inv.P x/\Wk σ H (inv.s x) (inv.h x))/\∀x,inv.P x->vc S b (fun e σ' H'=>match e with
    | .norm=>∃y,inv.P y/\Wk σ' H' (inv.s y) (inv.h y)/\inv.m y < inv.m x
    | e=>K e σ' H') (inv.s x) (inv.h x)
 | .exit id,K,σ,H=>K (.ex id) σ H
 | .ret,K,σ,H=>K .ret σ H
 | .keep ls lh c,K,σ,H=>vc S c K (iJ ls σ) (jy lh H)
 | .cut _ c,K,σ,H=>∃ (σ':Sg) (H':ab),Wk σ H σ' H'/\vc S c K σ' H'
def be:CC->CC
 | .reg l=> .reg (l.filter CI.real)
 | .regd pre tl=> .regd pre (tl.filter CI.real)
 | .seq a b=> .seq (be a) (be b)
 | .ite c a b=> .ite c (be a) (be b)
 | .block id b=> .block id (be b)
 | .loop _ b=> .loop 0 (be b)
 | .cut _ c=>be c
 | .keep _ _ c=>be c
 | c=>c
def bG(ops:Array Oper):Nat:=
 ((List.range (ops.size+1)).find? fun m=>(List.range ops.size).all fun j=>decide (j < m)||(List.range j).all fun i=>RN (Uo ops) j i).getD ops.size
def COp.noRead:COp->Bool
 | .mv _| .nilck _| .faddr _ _| .ext _ _| .arith _ _ _| .cmp _ _ _| .not _| .conv _ _=>true
 | _=>false
def CI.noRead:CI->Bool
 | .op _ _ c=>c.noRead
 | .frz _ _=>false
def Mz(ops:Array Oper)(cis:List CI)(m k:Nat):Bool:=
 decide (k<=m) && (List.range k).all fun j=>((cis[j]?).map CI.noRead).getD false||(List.range m).all fun i=>decide (i < k)||(((cis[i]?).map fun x=>x.wid.isNone).getD true)||RN (Uo ops) i j
def CI.isSt:CI->Bool
 | .op _ _ (.store (some _) _ _ _)=>true
 | .op _ _ (.append (some r) _ _ _ _ _)=>decide (990<=r/\r < 1000)
 | _=>false
def CI.isLd:CI->Bool
 | .op _ _ (.load _ _ _)=>true
 | _=>false
def qj0(ops:Array Oper)(cis:List CI)(m:Nat):Option Nat:=do
 let f <- (List.range m).find? fun i=>((cis[i]?).map CI.isSt).getD false
 let k <- ((List.range (f+1)).reverse).find? fun k=>Mz ops cis m k
 if(List.range k).any fun j=>((cis[j]?).map CI.isLd).getD false then some k else none
def Tj(ops:Array Oper)(cis:List CI)(m:Nat):List CI:=
 match qj0 ops cis m with
 | some k=>if Mz ops cis m k then cis.take k++ .frz 0 0::(cis.take m).drop k else cis.take m
 | none=>cis.take m
def aA(P:Program)(im:List Nat)(N:Nat):Code->Option CC
 | .skip=>some .skip
 | .label _=>some .skip
 | .region _ ops false=>(iS P im N ops).map .reg
 | .region _ ops true=>do
   let cis <-iS P im N ops
   if RB ops cis (bG ops)then some (.regd (Tj ops cis (bG ops)) (cis.drop (bG ops)))else none
 | .seq a b=>do some (.seq (<-aA P im N a) (<-aA P im N b))
 | .cond c a b=>do if xh c then some (.ite c (<-aA P im N a) (<-aA P im N b))else none
 | .block id b=>do some (.block id (<-aA P im N b))
 | .loop b=>do some (.loop 0 (<-aA P im N b))
 | .exit id=>some (.exit id)
 | .ret=>some .ret
 | _=>none
section
variable {P:Program}{im:List Nat}{E:xn}{S:Nat->Spc}
theorem qeH{tp I:Nat->Prop}{w:World}{x:Value}{a b:D}(h:Qs a b)(hr:R tp I w x a):R tp I w x b:=by
 unfold Qs at h
 split at h
 ·exact .any x
 ·rcases h with rfl|⟨i,rfl⟩
  ·cases hr with
   | v _ h1 _=>exact .own _ _ h1
  ·cases hr with
   | own _ _ h1=>exact .own _ _ h1
 ·rcases h with rfl|⟨rfl,rfl⟩
  ·exact hr
  ·cases hr
   exact .nolist _ _ _
 ·subst h;exact hr
theorem StW.sub{tp:Nat->Prop}{H H':ab}{w:World}(h:StW E tp H w)(hs:∀i r,H' i=some r->H i=some r\/isNilRow r):
 StW E tp H' w/\∀x d,R tp (aM E.O tp H w) w x d->R tp (aM E.O tp H' w) w x d:=by
 have nilblk:∀r,isNilRow r->r.blk=none:=fun r hr=>by
  cases r with
  | box b c=>exact hr.elim
  | iter b s p=>exact hr.elim
  | tbox b s p=>exact hr.elim
  | mrow x es=>exact hr.elim
  | miter b c l=>exact hr.elim
  | row x el n es=>obtain⟨rfl,rfl⟩:=hr;rfl
 have hown:∀b,bA H' b->bA H b:=fun b ⟨i,r,h1,h2⟩=>by
  rcases hs i r h1 with h3|h3
  ·exact⟨i,r,h3,h2⟩
  ·rw[nilblk r h3]at h2;cases h2
 have move:∀x d,R tp (aM E.O tp H w) w x d->R tp (aM E.O tp H' w) w x d:=fun x d hr=>
  hr.mono (fun _ h=>h) (fun b hb=>⟨⟨hb.1,hb.2.1,hb.2.2.1,fun ho=>hb.2.2.2 (hown b ho)⟩,rfl⟩) (fun b _=> .refl _ _)
 refine⟨⟨h.hO,h.tpx,h.tpn,h.tpl,h.step,fun b hb=>h.loc b (hown b hb),⟨fun i j r s b h1 h2 h3 h4=>?_,fun i r b h1 h2=>?_,fun i r h1=>?_⟩⟩,move⟩
 ·rcases hs i r h1 with k1|k1
  ·rcases hs j s h2 with k2|k2
   ·exact h.sat.dis i j r s b k1 k2 h3 h4
   ·rw[nilblk s k2]at h4;cases h4
  ·rw[nilblk r k1]at h3;cases h3
 ·rcases hs i r h1 with k1|k1
  ·exact h.sat.out i r b k1 h2
  ·rw[nilblk r k1]at h2;cases h2
 ·rcases hs i r h1 with k1|k1
  ·exact(h.sat.ok i r k1).conv move (fun _ _=>rfl)
  ·cases r with
   | box b c=>exact k1.elim
   | iter b s p=>exact k1.elim
   | tbox b s p=>exact k1.elim
   | mrow x es=>exact k1.elim
   | miter b c l=>exact k1.elim
   | row x el n es=>
     obtain⟨rfl,rfl⟩:=k1
     exact⟨[],qvb _ _ _ _,by simp,fun k y c h=>by simp at h⟩
theorem Ej{H:ab} :∀ {l:List Nat},∀i r,jy l H i=some r->H i=some r\/isNilRow r
 | [],i,r,h=>by simp[jy]at h
 | j::l,i,r,h=>by
   simp only[jy,ah]at h
   split at h
   ·rename_i e
    subst e
    exact .inl h
   ·exact Ej i r h
theorem MK{tp I:Nat->Prop}{w:World}{a:Act}{σ:Sg}(hr:∀t,R tp I w (a.tmps.getD t undef) (σ t)):∀ {l:List Nat},∀t,R tp I w (a.tmps.getD t undef) (qmc (l.map fun t=>(t,σ t)) t)
 | [],t=> .any _
 | s::l,t=>by
   simp only[qt7,qmc,upd]
   split
   ·rename_i e
    subst e
    exact hr t
   ·exact MK hr t
def qhj(E:xn)(K:Ex->Sg->ab->Prop):Exit->Act->World->Prop
 | .normal,a,w=>∃σ H,St E σ H a w/\K .norm σ H
 | .exit i,a,w=>∃σ H,St E σ H a w/\K (.ex i) σ H
 | .ret,a,w=>∃σ H,St E σ H a w/\K .ret σ H
 | _,_,_=>False
def PostZ(E:xn)(z:List PanicEntry->Prop)(K:Ex->Sg->ab->Prop):Exit->Act->World->Prop
 | .normal,a,w=>∃σ H,St E σ H a w/\K .norm σ H
 | .exit i,a,w=>∃σ H,St E σ H a w/\K (.ex i) σ H
 | .ret,a,w=>∃σ H,St E σ H a w/\K .ret σ H
 | .panic c,a,w=>a.defers=E.ds/\Su E z c w
 | _,_,_=>False
theorem PostZ.no{E:xn}{K:Ex->Sg->ab->Prop}{e:Exit}{a:Act}{w:World}(h:PostZ E OT K e a w):qhj E K e a w:=by
 cases e <;> first|exact h|exact h.2.1.elim
def QuietL(P:Program)(S:Nat->Spc):List CI->Prop
 | []=>True
 | x::l=>((∀y∈l,kD x y=false)\/cO P OT S x)/\QuietL P S l
theorem QuietL.get{P:Program}{S:Nat->Spc}{l:List CI} :QuietL P S l->∀ (j i:Nat) (x y:CI),j < i->l[j]? =some x->l[i]? =some y->kD x y=true->cO P OT S x:=by
 induction l with
 | nil=>intro _ j i x y _ h;simp at h
 | cons z l ih=>
   intro hq j i x y hij hx hy ha
   obtain⟨h1,h2⟩:=hq
   rcases i with _|i
   ·omega
   rw[quL]at hy
   rcases j with _|j
   ·rw[qvD]at hx
    have hx:=qtV hx
    subst hx
    rcases h1 with h|h
    ·have:=h y (qtJ hy)
     rw[this]at ha
     exact absurd ha (by simp)
    ·exact h
   ·rw[quL]at hx
    exact ih h2 j i x y (by omega) hx hy ha
theorem Hq{P:Program}{S:Nat->Spc} :∀ {l:List CI},(∀x∈l,cO P OT S x)->QuietL P S l
 | [],_=>trivial
 | x::l,h=>⟨.inr (h x (by simp)),Hq fun y hy=>h y (by simp[hy])⟩
def FQ(P:Program)(z:List PanicEntry->Prop)(S:Nat->Spc):CC->Prop
 | .reg l=>∀x∈l,cO P z S x
 | .regd pre tl=>(∀x∈pre,cO P z S x)/\(∀x∈tl,cO P z S x)/\QuietL P S (pre.filter CI.real)
 | .seq a b=>FQ P z S a/\FQ P z S b
 | .ite _ a b=>FQ P z S a/\FQ P z S b
 | .block _ b=>FQ P z S b
 | .loop _ b=>FQ P z S b
 | .cut _ b=>FQ P z S b
 | .keep _ _ b=>FQ P z S b
 | _=>True
theorem MA{P:Program}{S:Nat->Spc}(h:∀f,Tri P f (S f).pt):∀x,cO P OT S x
 | .op _ _ c=>WF h c
 | .frz _ _=>trivial
theorem mu{P:Program}{S:Nat->Spc}(h:∀f,Tri P f (S f).pt):∀cc,FQ P OT S cc
 | .reg l=>fun x _=>MA h x
 | .regd pre tl=>⟨fun x _=>MA h x,fun x _=>MA h x,Hq fun x _=>MA h x⟩
 | .seq a b=>⟨mu h a,mu h b⟩
 | .ite _ a b=>⟨mu h a,mu h b⟩
 | .block _ b=>mu h b
 | .loop _ b=>mu h b
 | .cut _ b=>mu h b
 | .keep _ _ b=>mu h b
 | .skip=>trivial
 | .exit _=>trivial
 | .ret=>trivial
def sO(x:CI)(Hr:ab):ab:=if x.noRead then fun _=>none else Hr
def nQ:List CI->ab->List (CI×ab)
 | [],_=>[]
 | .frz _ _::r,Hr=>nQ r (bh r Hr)
 | .op d g c::r,Hr=>(.op d g c,sO (.op d g c) Hr)::nQ r Hr
theorem Mi{c:COp}{dst:Option Nat}{σ:Sg}{Hr Hr' H:ab}{K:D->ab->Prop}(h:c.noRead=true):av S c dst σ Hr H K↔av S c dst σ Hr' H K:=by
 cases c <;> first|(simp[COp.noRead]at h;done)|exact quJ
theorem YE{d:Option Nat}{g:Option (Nat×Bool)}{c:COp}{dst:Option Nat}{σ:Sg}{Hr H:ab}{K:D->ab->Prop} :av S c dst σ (sO (.op d g c) Hr) H K↔av S c dst σ Hr H K:=by
 unfold sO
 split
 ·rename_i h
  exact Mi h
 ·exact quJ
theorem B1{K:Sg->ab->Prop} :∀ (l:List CI) (σ:Sg) (Hr H:ab),lw S l σ Hr H K->qbn S (nQ l Hr) σ H K
 | [],σ,Hr,H,h=>h
 | .frz _ _::l,σ,Hr,H,h=>B1 l σ (bh l Hr) H h
 | .op dst g c::r,σ,Hr,H,h=>by
   simp only[lw]at h
   simp only[nQ,qbn,JC,CI.dst]
   have mono:∀σ':Sg,av S c dst σ' Hr H (fun d H'=>lw S r (eH σ' dst d) Hr H' K)->av S c dst σ' (sO (.op dst g c) Hr) H (fun d H'=>qbn S (nQ r Hr) (eH σ' dst d) H' K):=fun σ' hp=>by
    obtain⟨pre,out,hf⟩:=H3 S c dst σ' Hr (pF H (c.wid dst))
    have hf:∀H',pF H' (c.wid dst)=pF H (c.wid dst)->∀K,av S c dst σ' Hr H' K↔ (pre/\∀d u,out d u->K d (fD H' (c.wid dst) u)):=hf
    obtain⟨h1,h2⟩:=(hf H rfl _).1 hp
    exact YE.2 ((hf H rfl _).2 ⟨h1,fun d u ho=>B1 r _ Hr _ (h2 d u ho)⟩)
   cases g with
   | none=>exact mono σ h
   | some sb=>
     obtain⟨s,b⟩:=sb
     simp only[oR]at h
     split at h
     ·rename_i t e1
      simp only
      rw[e1]
      refine⟨fun e=>?_,fun e=>?_⟩
      ·have:=h.1 e
       rw[<-e,B5 e1]at this
       exact mono σ this
      ·have:=h.2 e
       rw[<-e,B5 e1]at this
       exact B1 r _ Hr H this
     ·rename_i e1
      simp only
      rw[e1]
      exact B1 r _ Hr H h
     ·exact h.elim
theorem vY(Hr:ab):∀ (l:List CI),(∀x∈l,x.real=true)->∀ (r:List CI),nQ (l++r) Hr=(l.map fun x=>(x,sO x Hr)) ++nQ r Hr
 | [],_,r=>rfl
 | .frz _ _::l,h,r=>by simp[CI.real]at h
 | .op _ _ _::l,h,r=>by
   simp only[quv,nQ,qt7]
   rw[vY Hr l (fun x hx=>h x (by simp[hx])) r]
theorem Bl{t:Nat}{H:ab} :∀ {l:List CI},(∀x∈l,x.real=true)->∀x∈l,Dv x.wid t->bh l H t=none
 | .frz _ _::l,h,x,hx,hw=>by simp[CI.real]at h
 | .op _ _ _::l,h,x,hx,hw=>by
   simp only[bh]
   rcases qtM.1 hx with rfl|hx
   ·rw[if_pos hw]
   ·split
    ·rfl
    ·exact Bl (fun x hx=>h x (by simp[hx])) x hx hw
theorem yF{H:ab} :∀ (l:List CI),Ny (bh l H) H
 | []=>fun _ _ h=>h
 | .frz _ _::l=>fun _ _ h=>h
 | .op _ _ _::l=>fun i r h=>by
   simp only[bh]at h
   split at h
   ·cases h
   ·exact yF l i r h
theorem KJ{H:ab} :∀ (l:List CI) (a b:Nat) (r:List CI),(∀x∈l,x.real=true)->bh (l++ .frz a b::r) H=bh l H
 | [],_,_,_,_=>rfl
 | .frz _ _::l,_,_,_,h=>by simp[CI.real]at h
 | .op _ _ _::l,a,b,r,h=>by
   simp only[quv,bh]
   rw[KJ l a b r (fun x hx=>h x (by simp[hx]))]
theorem OQ{ops:Array Oper}{cis:List CI}{m:Nat}(h:RB ops cis m=true):
 (∀i o,ops[i]? =some o->∀j∈Eu o,j < i)/\m<=ops.size/\(∀j,m<=j->j < ops.size->∀i,i < j->RN (Uo ops) j i=true)/\
 (∀j,j < m->∀i,i < j->RN (Uo ops) j i=true\/ ∃x y,cis[i]? =some x/\cis[j]? =some y/\kD x y=true):=by
 unfold RB at h
 simp only[qtN,qtL,qve,Bool.or_eq_true,decide_eq_true_eq]at h
 obtain⟨⟨⟨h0,h2⟩,h1⟩,hm⟩:=h
 refine⟨fun i o ho j hj=>?_,hm,fun j hmj hj i hi=>?_,fun j hj i hi=>?_⟩
 ·have hi:i < ops.size:=(qtO.1 ho).1
  have:=h0 i hi
  rw[ho]at this
  simp only[qvy,qup,qtL,decide_eq_true_eq]at this
  exact this j hj
 ·rcases h2 j hj with h|h
  ·omega
  ·exact h i hi
 ·rcases h1 j hj i hi with h|h
  ·exact .inl h
  ·split at h
   ·rename_i x y e1 e2
    exact .inr ⟨x,y,e1,e2,h⟩
   ·cases h
theorem KL{α β:Type}{f:α->Option β} :∀ {l:List α} {r:List β} (m:Nat),l.mapM f=some r->(l.drop m).mapM f=some (r.drop m)
 | l,r,0,h=>by simpa using h
 | [],r,m+1,h=>by simp at h;subst h;simp
 | a::l,r,m+1,h=>by
   rw[qui]at h
   simp only[qtI,qtE]at h
   obtain⟨x,hx,y,hy,h⟩:=h
   cases h
   simpa using KL m hy
theorem PG{ops:Array Oper}{id:Nat}{pre tl:List CI}{K:Ex->Sg->ab->Prop}{z:List PanicEntry->Prop}(hSp:∀x∈pre,cO P z S x)(hSt:∀x∈tl,cO P z S x)(hqu:QuietL P S (pre.filter CI.real))(hc:aA P im E.N (.region id ops true)=some (.regd pre (tl.filter CI.real)))
 {σ:Sg} {H:ab} {a:Act} {w:World} (hst:St E σ H a w) (hv:lw S pre σ (bh pre H) H fun σ H=>B2 S tl σ H (K .norm)):wpAny P .any ops (PostZ E z K) ops.size (Array.replicate ops.size false) a w.drew:=by
 simp only[aA,qtI,qtE]at hc
 obtain⟨cis,hcis,hc⟩:=hc
 split at hc
 ·rename_i hok
  simp only[qtT,CC.regd.injEq]at hc
  obtain⟨hpre,htl⟩:=hc
  obtain⟨hC0,hm,hC2,hC1⟩:=OQ hok
  obtain⟨hclen,hcget⟩:=rW hcis
  have hst':St E σ H a w.drew:=by
   obtain⟨hd,hN,tp,hw,hr⟩:=hst
   have hmv:=hw.grow (MP w none)
   exact⟨hd,hN,tp,hmv.1,fun t=>hmv.2 _ _ (hr t)⟩
  have hreal:∀x∈cis,x.real=true:=fun x hx=>by
   obtain⟨i,hi⟩:=qt8.1 hx
   have hil:i < ops.size:=by rw[<-hclen];exact(qtG.1 hi).1
   obtain⟨y,h1,h2⟩:=hcget i ops[i] (by simp[hil])
   rw[hi]at h1
   cases h1
   obtain⟨g,c,rfl,_⟩:=fA h2
   rfl
  have hfil:pre.filter CI.real=cis.take (bG ops):=by
   have hall:∀l:List CI,(∀x∈l,x.real=true)->l.filter CI.real=l:=fun l h=>qwb.2 h
   rw[<-hpre]
   unfold Tj
   split
   ·split
    ·rename_i k _ hok2
     unfold Mz at hok2
     simp only[qtN,decide_eq_true_eq]at hok2
     rw[qvA,hall _ fun x hx=>hreal x (qt3 hx),quV]
     simp only[CI.real,qul,if_false]
     rw[hall _ fun x hx=>hreal x (qt3 (quA hx))]
     conv=>rhs;rw[<-qus k (cis.take (bG ops)),qv1,Nat.min_eq_left hok2.1]
    ·exact hall _ fun x hx=>hreal x (qt3 hx)
   ·exact hall _ fun x hx=>hreal x (qt3 hx)
  rw[hfil]at hqu
  have hSj:∀j x,j < bG ops->cis[j]? =some x->cO P z S x:=fun j x hj hx=>by
   refine hSp x ?_
   have hx':x∈pre.filter CI.real:=by
    rw[hfil,qt8]
    exact⟨j,by rw[qtZ,if_pos hj];exact hx⟩
   exact(qva.1 hx').1
  have hquiet:∀j i x y,j < i->i < bG ops->cis[j]? =some x->cis[i]? =some y->kD x y=true->cO P OT S x:=fun j i x y hij hi hx hy ha=>
   hqu.get j i x y hij (by rw[qtZ,if_pos (by omega)];exact hx) (by rw[qtZ,if_pos hi];exact hy) ha
  obtain⟨k,hkm,hkok,hpre2⟩:∃k,k<=bG ops/\(∀i j x t,k<=i->i < bG ops->j < k->cis[i]? =some x->Dv x.wid t->(∃y,cis[j]? =some y/\y.noRead=true)\/RN (Uo ops) i j=true)/\
   nQ pre (bh pre H)=((cis.take k).map fun x=>(x,sO x (bh (cis.take k) H))) ++ (((cis.take (bG ops)).drop k).map fun x=>(x,sO x (bh ((cis.take (bG ops)).drop k) (bh (cis.take k) H)))):=by
   have hr1:∀n,∀x∈cis.take n,x.real=true:=fun n x hx=>hreal x (qt3 hx)
   have hr2:∀n k,∀x∈ (cis.take n).drop k,x.real=true:=fun n k x hx=>hr1 n x (quA hx)
   have plain:pre=cis.take (bG ops)->∃k,k<=bG ops/\(∀i j x t,k<=i->i < bG ops->j < k->cis[i]? =some x->Dv x.wid t->(∃y,cis[j]? =some y/\y.noRead=true)\/RN (Uo ops) i j=true)/\
    nQ pre (bh pre H)=((cis.take k).map fun x=>(x,sO x (bh (cis.take k) H))) ++ (((cis.take (bG ops)).drop k).map fun x=>(x,sO x (bh ((cis.take (bG ops)).drop k) (bh (cis.take k) H)))):=fun e=>by
    refine⟨bG ops,qtP _,fun i j x t h1 h2=>by omega,?_⟩
    have:(cis.take (bG ops)).drop (bG ops)=[]:=by simp
    rw[e,this]
    have:=vY (bh (cis.take (bG ops)) H) (cis.take (bG ops)) (hr1 _) []
    simpa [nQ]using this
   have hpre':=hpre.symm
   unfold Tj at hpre'
   split at hpre'
   ·rename_i k _
    split at hpre'
    ·rename_i hok2
     unfold Mz at hok2
     simp only[qtN,decide_eq_true_eq,qtL,qve,Bool.or_eq_true]at hok2
     refine⟨k,hok2.1,fun i j x t h1 h2 h3 h4 h5=>?_,?_⟩
     ·rcases hok2.2 j h3 with h|h
      ·left
       cases hj:cis[j]? with
       | none=>rw[hj]at h;simp at h
       | some y=>rw[hj]at h;exact⟨y,rfl,by simpa using h⟩
      ·right
       rcases h i h2 with(h|h)|h
       ·omega
       ·rw[h4]at h;exfalso;revert h;cases hw:x.wid with
        | none=>rw[hw]at h5;exact h5.elim
        | some q=>simp[hw]
       ·exact h
     ·rw[hpre',KJ _ _ _ _ (hr1 _),vY _ _ (hr1 _)]
      simp only[nQ]
      congr 1
      have:=vY (bh ((cis.take (bG ops)).drop k) (bh (cis.take k) H)) ((cis.take (bG ops)).drop k) (hr2 _ _) []
      simpa [nQ]using this
    ·exact plain hpre'
   ·exact plain hpre'
  have hHr:∀j,∃Hr,Hr=sO ((cis[j]?).getD (.frz 0 0)) (if j < k then bh (cis.take k) H else bh ((cis.take (bG ops)).drop k) (bh (cis.take k) H)):=fun j=>⟨_,rfl⟩
  have hr1:∀n,∀x∈cis.take n,x.real=true:=fun n x hx=>hreal x (qt3 hx)
  have hr2:∀n k,∀x∈ (cis.take n).drop k,x.real=true:=fun n k x hx=>hr1 n x (quA hx)
  have mem1:∀i x,i < k->cis[i]? =some x->x∈cis.take k:=fun i x hi hx=>qt8.2 ⟨i,by rw[qtZ,if_pos hi];exact hx⟩
  have mem2:∀i x,k<=i->i < bG ops->cis[i]? =some x->x∈ (cis.take (bG ops)).drop k:=fun i x h1 h2 hx=>qt8.2 ⟨i -k,by rw[quk,qtZ,if_pos (by omega),show k+ (i -k)=i by omega];exact hx⟩
  have none1:∀i x t,i < k->cis[i]? =some x->Dv x.wid t->bh (cis.take k) H t=none:=fun i x t hi hx ht=>Bl (hr1 _) x (mem1 i x hi hx) ht
  have none2:∀i x t,i < bG ops->cis[i]? =some x->Dv x.wid t->bh ((cis.take (bG ops)).drop k) (bh (cis.take k) H) t=none:=fun i x t hi hx ht=>by
   by_cases hik:i < k
   ·cases he:bh ((cis.take (bG ops)).drop k) (bh (cis.take k) H) t with
    | none=>rfl
    | some r=>
      have:=yF _ _ _ he
      rw[none1 i x t hik hx ht]at this
      cases this
   ·exact Bl (hr2 _ _) x (mem2 i x (by omega) hi hx) ht
  have hrOf_none:∀x (Hr:ab) t,Hr t=none->sO x Hr t=none:=fun x Hr t h=>by
   unfold sO;split
   ·rfl
   ·exact h
  have hrOf_le:∀x (Hr:ab),Ny Hr H->Ny (sO x Hr) H:=fun x Hr h=>by
   unfold sO;split
   ·intro i r hi;cases hi
   ·exact h
  have hmain:=qck (im:=im) (cis:=cis) (tl:=tl) (Hr:=fun j=>sO ((cis[j]?).getD (.frz 0 0)) (if j < k then bh (cis.take k) H else bh ((cis.take (bG ops)).drop k) (bh (cis.take k) H))) (Q:=PostZ E z K) (fun c a w' h1 h2=>⟨h1,h2⟩) (fun σ H a w hs hk=>⟨σ,H,hs,hk⟩) hcis hC0 hSj hquiet hm hC2 hC1 (by
   rw[<-htl]
   exact KL _ hcis) hSt (fun i j x t hi hj hij hx ht=>by
   by_cases hjk:j < k
   ·simp only[if_pos hjk]
    by_cases hik:i < k
    ·exact .inl (hrOf_none _ _ _ (none1 i x t hik hx ht))
    ·rcases hkok i j x t (by omega) hi hjk hx ht with⟨y,hy,hn⟩|h
     ·left
      simp only[hy,qup,sO]
      rw[if_pos hn]
     ·exact .inr h
   ·simp only[if_neg hjk]
    exact .inl (hrOf_none _ _ _ (none2 i x t hi hx ht))) (fun i j x t hi hj hij hx ht=>by
   by_cases hjk:j < k
   ·simp only[if_pos hjk]
    exact hrOf_none _ _ _ (none1 i x t (by omega) hx ht)
   ·simp only[if_neg hjk]
    exact hrOf_none _ _ _ (none2 i x t hi hx ht)) (bG ops) (List.range (bG ops)) (Array.replicate ops.size false) (by simp) (by
   simp only[qvR]
   intro i j hi hj hij
   simpa using hij) (fun i hi=>by simpa using hi) (by simp) (fun i hi=>by
    constructor
    ·intro h
     simp[vn,hi]at h
    ·rintro⟨h1,h2⟩
     exact absurd (qve.2 h1) h2) (fun i o ho hd=>by
    exfalso
    simp[vn]at hd
    have hi:i < ops.size:=(qtO.1 ho).1
    simp[hi]at hd) σ H a w.drew hst' (fun i _=>by
    refine hrOf_le _ _ ?_
    split
    ·exact yF _
    ·exact fun i r hi=>yF _ _ _ (yF _ _ _ hi)) (by
    have hv2:=B1 _ _ _ _ hv
    rw[hpre2]at hv2
    have hlist:((List.range (bG ops)).map fun i=>((cis[i]?).getD (.frz 0 0),sO ((cis[i]?).getD (.frz 0 0)) (if i < k then bh (cis.take k) H else bh ((cis.take (bG ops)).drop k) (bh (cis.take k) H))))=
     ((cis.take k).map fun x=>(x,sO x (bh (cis.take k) H))) ++ (((cis.take (bG ops)).drop k).map fun x=>(x,sO x (bh ((cis.take (bG ops)).drop k) (bh (cis.take k) H)))):=by
     have hcl:bG ops<=cis.length:=by omega
     have hgeti:∀i,i < bG ops->∃x,cis[i]? =some x:=fun i hi=>⟨_,qtH (by omega)⟩
     apply quC
     intro i
     have hl1:((cis.take k).map fun x=>(x,sO x (bh (cis.take k) H))).length=k:=by simp;omega
     by_cases him:i < bG ops
     ·obtain⟨x,hx⟩:=hgeti i him
      rw[qtX,quP him]
      simp only[qvy,hx,qup]
      by_cases hik:i < k
      ·rw[qt0 (by omega),qtX,qtZ,if_pos hik,hx]
       simp[hik]
      ·rw[qtQ (by omega),hl1,qtX,quk,qtZ,if_pos (show k+ (i -k) < bG ops by omega),show k+ (i -k)=i by omega,hx]
       simp[hik]
     ·have e1:((cis.take k).map fun x=>(x,sO x (bh (cis.take k) H))).length+ (((cis.take (bG ops)).drop k).map fun x=>(x,sO x (bh ((cis.take (bG ops)).drop k) (bh (cis.take k) H)))).length=bG ops:=by
       rw[hl1,qux,quF,qug];omega
      rw[qua (by simp;omega),qua]
      rw[qt4,e1];omega
    rw[hlist]
    exact hv2)
  have hsz:(List.range (bG ops)).length+ (ops.size -bG ops)=ops.size:=by simp;omega
  rw[hsz]at hmain
  exact hmain
 ·cases hc
theorem R9{ops:Array Oper}{id:Nat}{pre tl:List CI}{K:Ex->Sg->ab->Prop}{z:List PanicEntry->Prop}(hSp:∀x∈pre,cO P z S x)(hSt:∀x∈tl,cO P z S x)(hqu:QuietL P S (pre.filter CI.real))(hmix:P.follows .mixedOrders=true)(hc:aA P im E.N (.region id ops true)=some (.regd pre (tl.filter CI.real)))
 {σ:Sg} {H:ab} {a:Act} {w:World} (hst:St E σ H a w) (hv:lw S pre σ (bh pre H) H fun σ H=>B2 S tl σ H (K .norm)):(Code.region id ops true).wp P (PostZ E z K) a w:=
 wp_region_any hmix (PG hSp hSt hqu hc hst hv)
theorem aV{N:Nat}{code:Code}{c:CC}(h:aA P im N code=some c):
 (c= .skip/\(code= .skip\/ ∃l,code= .label l))\/(∃id ops l,code= .region id ops false/\c= .reg l/\iS P im N ops=some l)\/(∃id ops pre tl,code= .region id ops true/\c= .regd pre tl)\/
 (∃a b x y,code= .seq a b/\c= .seq x y/\aA P im N a=some x/\aA P im N b=some y)\/
 (∃q a b x y,code= .cond q a b/\c= .ite q x y/\xh q=true/\aA P im N a=some x/\aA P im N b=some y)\/
 (∃id a x,code= .block id a/\c= .block id x/\aA P im N a=some x)\/(∃a x,code= .loop a/\c= .loop 0 x/\aA P im N a=some x)\/
 (∃id,code= .exit id/\c= .exit id)\/(code= .ret/\c= .ret):=by
 cases code with
 | skip=>simp only[aA]at h;cases h;exact .inl ⟨rfl, .inl rfl⟩
 | label l=>simp only[aA]at h;cases h;exact .inl ⟨rfl, .inr ⟨l,rfl⟩⟩
 | region id ops d=>
   cases d
   ·simp only[aA]at h
    obtain⟨l,hl,rfl⟩:=aF h
    exact .inr (.inl ⟨id,ops,l,rfl,rfl,hl⟩)
   ·simp only[aA,qtI,qtE]at h
    obtain⟨cis,_,h⟩:=h
    split at h
    ·cases h;exact .inr (.inr (.inl ⟨id,ops,_,_,rfl,rfl⟩))
    ·cases h
 | seq a b=>
   simp only[aA,qtI,qtE]at h
   obtain⟨x,hx,y,hy,h⟩:=h
   cases h
   exact .inr (.inr (.inr (.inl ⟨a,b,x,y,rfl,rfl,hx,hy⟩)))
 | cond q a b=>
   simp only[aA,qtI]at h
   split at h
   ·rename_i hq
    simp only[qtE]at h
    obtain⟨x,hx,y,hy,h⟩:=h
    cases h
    exact .inr (.inr (.inr (.inr (.inl ⟨q,a,b,x,y,rfl,rfl,hq,hx,hy⟩))))
   ·cases h
 | block id b=>
   simp only[aA,qtI,qtE]at h
   obtain⟨x,hx,h⟩:=h
   cases h
   exact .inr (.inr (.inr (.inr (.inr (.inl ⟨id,b,x,rfl,rfl,hx⟩)))))
 | loop b=>
   simp only[aA,qtI,qtE]at h
   obtain⟨x,hx,h⟩:=h
   cases h
   exact .inr (.inr (.inr (.inr (.inr (.inr (.inl ⟨b,x,rfl,rfl,hx⟩))))))
 | exit id=>simp only[aA]at h;cases h;exact .inr (.inr (.inr (.inr (.inr (.inr (.inr (.inl ⟨id,rfl,rfl⟩)))))))
 | ret=>simp only[aA]at h;cases h;exact .inr (.inr (.inr (.inr (.inr (.inr (.inr (.inr ⟨rfl,rfl⟩)))))))
 | _=>simp[aA]at h
theorem Rs{ops:Array Oper}{id:Nat}{l:List CI}{K:Ex->Sg->ab->Prop}{z:List PanicEntry->Prop}(hS:∀x∈l,cO P z S x)(hc:iS P im E.N ops=some (l.filter CI.real))
 {σ:Sg} {H:ab} {a:Act} {w:World} (hst:St E σ H a w) (hv:B2 S l σ H (K .norm)):(Code.region id ops false).wp P (PostZ E z K) a w:=
 wp_region_list (Ki (im:=im) (Q:=PostZ E z K) (K:=K .norm) (fun c a w' h1 h2=>⟨h1,h2⟩) (fun σ H a w hs hk=>⟨σ,H,hs,hk⟩) l hS ops.toList hc σ H a w hst hv)
theorem J9{z:List PanicEntry->Prop}(hmix:P.follows .mixedOrders=true)(cc:CC):FQ P z S cc->∀ (code:Code),aA P im E.N code=some (be cc)->∀ (K:Ex->Sg->ab->Prop) (σ:Sg) (H:ab) (a:Act) (w:World),
 St E σ H a w->vc S cc K σ H->code.wp P (PostZ E z K) a w:=by
 induction cc with
 | skip=>
   intro hqu code hc K σ H a w hst hv
   rcases aV hc with⟨_,h⟩|⟨_,_,_,_,h,_⟩|⟨_,_,_,_,_,h⟩|⟨_,_,_,_,_,h,_⟩|⟨_,_,_,_,_,_,h,_⟩|⟨_,_,_,_,h,_⟩|⟨_,_,_,h,_⟩|⟨_,_,h⟩|⟨_,h⟩ <;> try (simp[be]at h;done)
   rcases h with rfl|⟨l,rfl⟩
   ·exact wp_skip ⟨σ,H,hst,hv⟩
   ·exact wp_label ⟨σ,H,hst,hv⟩
 | reg l=>
   intro hqu code hc K σ H a w hst hv
   rcases aV hc with⟨h,_⟩|⟨id,ops,l',rfl,h,hl⟩|⟨_,_,_,_,_,h⟩|⟨_,_,_,_,_,h,_⟩|⟨_,_,_,_,_,_,h,_⟩|⟨_,_,_,_,h,_⟩|⟨_,_,_,h,_⟩|⟨_,_,h⟩|⟨_,h⟩ <;> try (simp[be]at h;done)
   simp only[be,CC.reg.injEq]at h
   subst h
   exact Rs hqu hl hst hv
 | regd pre tl=>
   intro hqu code hc K σ H a w hst hv
   rcases aV hc with⟨h,_⟩|⟨_,_,_,_,h,_⟩|⟨id,ops,pre',tl',rfl,h⟩|⟨_,_,_,_,_,h,_⟩|⟨_,_,_,_,_,_,h,_⟩|⟨_,_,_,_,h,_⟩|⟨_,_,_,h,_⟩|⟨_,_,h⟩|⟨_,h⟩ <;> try (simp[be]at h;done)
   exact R9 hqu.1 hqu.2.1 hqu.2.2 hmix hc hst hv
 | seq x y ihx ihy=>
   intro hqu code hc K σ H a w hst hv
   rcases aV hc with⟨h,_⟩|⟨_,_,_,_,h,_⟩|⟨_,_,_,_,_,h⟩|⟨p,q,x',y',rfl,h,hx,hy⟩|⟨_,_,_,_,_,_,h,_⟩|⟨_,_,_,_,h,_⟩|⟨_,_,_,h,_⟩|⟨_,_,h⟩|⟨_,h⟩ <;> try (simp[be]at h;done)
   simp only[be,CC.seq.injEq]at h
   obtain⟨rfl,rfl⟩:=h
   refine wp_seq (qu7 ?_ (ihx hqu.1 p hx _ σ H a w hst hv))
   intro e a' w' hp
   cases e with
   | normal=>
     obtain⟨σ',H',hs,hk⟩:=hp
     exact ihy hqu.2 q hy K σ' H' a' w' hs hk
   | exit id=>exact hp
   | ret=>exact hp
   | goto l=>exact hp
   | panic c=>exact hp
   | outgrown=>exact hp
 | ite q x y ihx ihy=>
   intro hqu code hc K σ H a w hst hv
   rcases aV hc with⟨h,_⟩|⟨_,_,_,_,h,_⟩|⟨_,_,_,_,_,h⟩|⟨_,_,_,_,_,h,_⟩|⟨q',p1,p2,x',y',rfl,h,hq,hx,hy⟩|⟨_,_,_,_,h,_⟩|⟨_,_,_,h,_⟩|⟨_,_,h⟩|⟨_,h⟩ <;> try (simp[be]at h;done)
   simp only[be,CC.ite.injEq]at h
   obtain⟨rfl,rfl,rfl⟩:=h
   simp only[vc]at hv
   have hst0:=hst
   obtain⟨hd,hN,tp,hw,hr⟩:=hst
   have hqr:=R2 hr q hq
   split at hv
   ·rename_i t e1
    rw[e1]at hqr
    refine wp_cond_split hqr.inv_v (fun h=>?_) (fun h=>?_)
    ·exact ihx hqu.1 p1 hx K σ H a w hst0 (hv.1 h)
    ·exact ihy hqu.2 p2 hy K σ H a w hst0 (hv.2 h)
   ·exact hv.elim
 | block id b ih=>
   intro hqu code hc K σ H a w hst hv
   rcases aV hc with⟨h,_⟩|⟨_,_,_,_,h,_⟩|⟨_,_,_,_,_,h⟩|⟨_,_,_,_,_,h,_⟩|⟨_,_,_,_,_,_,h,_⟩|⟨id',p,x',rfl,h,hx⟩|⟨_,_,_,h,_⟩|⟨_,_,h⟩|⟨_,h⟩ <;> try (simp[be]at h;done)
   simp only[be,CC.block.injEq]at h
   obtain⟨rfl,rfl⟩:=h
   refine wp_block (qu7 ?_ (ih hqu p hx _ σ H a w hst hv))
   intro e a' w' hp
   cases e with
   | normal=>exact hp
   | exit i=>
     obtain⟨σ',H',hs,hk⟩:=hp
     simp only[Exit.inBlock]
     by_cases hi:i=id
     ·simp only[if_pos hi]at hk ⊢
      exact⟨σ',H',hs,hk⟩
     ·simp only[if_neg hi]at hk ⊢
      exact⟨σ',H',hs,hk⟩
   | ret=>exact hp
   | goto l=>exact hp
   | panic c=>exact hp
   | outgrown=>exact hp
 | loop key b ih=>
   intro hqu code hc K σ H a w hst hv
   rcases aV hc with⟨h,_⟩|⟨_,_,_,_,h,_⟩|⟨_,_,_,_,_,h⟩|⟨_,_,_,_,_,h,_⟩|⟨_,_,_,_,_,_,h,_⟩|⟨_,_,_,_,h,_⟩|⟨p,x',rfl,h,hx⟩|⟨_,_,h⟩|⟨_,h⟩ <;> try (simp[be]at h;done)
   simp only[be,CC.loop.injEq,true_and]at h
   subst h
   simp only[vc]at hv
   obtain⟨inv,⟨x0,hP0,hm0⟩,hround⟩:=hv
   ·skip
    intro fr k cs
    have key:∀ (n:Nat) (x:inv.X),inv.P x->inv.m x=n->∀a w,St E (inv.s x) (inv.h x) a w->
     ∃e a' w',PostZ E z K e a' w'/\Arrives P (lone (fr.at a (.code p:: .inLoop p::k)) cs w) fr k cs e a' w':=by
     intro n
     induction n using Nat.strongRecOn with
     | _ n ihn=>
       intro x hP hm a w hst
       obtain⟨e,a1,w1,hq,harr⟩:=ih hqu p hx _ _ _ a w hst (hround x hP) fr (.inLoop p::k) cs
       cases e with
       | normal=>
         obtain⟨σ',H',hs,y,hPy,hy1,hlt⟩:=hq
         obtain⟨e2,a2,w2,hq2,harr2⟩:=ihn (inv.m y) (by omega) y hPy rfl a1 w1 (hy1 _ _ _ hs)
         exact⟨e2,a2,w2,hq2, .of_steps (Steps.trans harr (.one step_inLoop)) harr2⟩
       | exit id=>
         obtain⟨σ',H',hs,hk⟩:=hq
         exact⟨.exit id,a1,w1,⟨σ',H',hs,hk⟩, .pass (x:= .inLoop p) rfl (fun _ _=> .inl (by simp)) harr⟩
       | ret=>
         obtain⟨σ',H',hs,hk⟩:=hq
         exact⟨.ret,a1,w1,⟨σ',H',hs,hk⟩, .pass (x:= .inLoop p) rfl (fun _ _=> .inl (by simp)) harr⟩
       | goto l=>exact hq.elim
       | panic c=>exact⟨.panic c,a1,w1,hq, .pass (x:= .inLoop p) rfl (fun _ _=> .inl (by simp)) harr⟩
       | outgrown=>exact hq.elim
    obtain⟨e,a',w',hq,harr⟩:=key _ x0 hP0 rfl a w (hm0 _ _ _ hst)
    exact⟨e,a',w',hq, .of_steps (.one step_loop) harr⟩
 | exit id=>
   intro hqu code hc K σ H a w hst hv
   rcases aV hc with⟨h,_⟩|⟨_,_,_,_,h,_⟩|⟨_,_,_,_,_,h⟩|⟨_,_,_,_,_,h,_⟩|⟨_,_,_,_,_,_,h,_⟩|⟨_,_,_,_,h,_⟩|⟨_,_,_,h,_⟩|⟨id',rfl,h⟩|⟨_,h⟩ <;> try (simp[be]at h;done)
   simp only[be,CC.exit.injEq]at h
   subst h
   exact wp_exit ⟨σ,H,hst,hv⟩
 | ret=>
   intro hqu code hc K σ H a w hst hv
   rcases aV hc with⟨h,_⟩|⟨_,_,_,_,h,_⟩|⟨_,_,_,_,_,h⟩|⟨_,_,_,_,_,h,_⟩|⟨_,_,_,_,_,_,h,_⟩|⟨_,_,_,_,h,_⟩|⟨_,_,_,h,_⟩|⟨_,_,h⟩|⟨rfl,h⟩ <;> try (simp[be]at h;done)
   exact wp_ret ⟨σ,H,hst,hv⟩
 | cut key c ih=>
   intro hqu code hc K σ H a w hst hv
   simp only[vc]at hv
   obtain⟨σ',H',hwk,hrest⟩:=hv
   exact ih hqu code hc K _ _ a w (hwk _ _ _ hst) hrest
 | keep ls lh c ih=>
   intro hqu code hc K σ H a w hst hv
   simp only[vc]at hv
   refine ih hqu code hc K _ _ a w ?_ hv
   obtain⟨hd,hN,tp,hw,hr⟩:=hst
   have hm:=hw.sub (Ej (l:=lh))
   refine⟨hd,hN,tp,hm.1,fun t=>hm.2 _ _ ?_⟩
   unfold iJ
   exact MK hr t
theorem uG(hS:∀f,Tri P f (S f).pt)(hmix:P.follows .mixedOrders=true)(cc:CC):∀ (code:Code),aA P im E.N code=some (be cc)->∀ (K:Ex->Sg->ab->Prop) (σ:Sg) (H:ab) (a:Act) (w:World),
 St E σ H a w->vc S cc K σ H->code.wp P (qhj E K) a w:=fun code hc K σ H a w hst hv=>
 qu7 (fun _ _ _ h=>h.no) (J9 (z:=OT) hmix cc (mu hS cc) code hc K σ H a w hst hv)
end
end Go.Gv
