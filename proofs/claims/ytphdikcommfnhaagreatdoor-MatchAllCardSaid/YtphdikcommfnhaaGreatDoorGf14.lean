/- A part of the framework and of the walks: T6. -/
import Derived.Test.YtphdikcommfnhaaGreatDoorGf13
set_option linter.unusedSimpArgs false
set_option linter.unusedVariables false
set_option linter.unusedSectionVars false

namespace Go.Gv
inductive Ex where
 | norm
 | ex (id:Nat)
 | ret
inductive CC where
 | skip
 | reg (l:List CI)
 | regd (pre tl:List CI)
 | seq (a b:CC)
 | ite (c:Operand) (a b:CC)
 | block (id:Nat) (b:CC)
 | loop (key:Nat) (b:CC)
 | exit (id:Nat)
 | ret
 | cut (key:Nat) (c:CC)
 | keep (ls lh:List Nat) (c:CC)
structure qkl where
 X:Type
 P:X->Prop
 s:X->Sg
 h:X->ab
 m:X->Nat
def Wk(σ:Sg)(H:ab)(σ':Sg)(H':ab):Prop:=∀ (E:yL) (a:Act) (w:World),St E σ H a w->St E σ' H' a w
def PI(a b:D):Prop:=
 match b with
 | .any=>True
 | .own _ x=>a= .v x\/ ∃i,a= .own i x
 | .list n es=>a= .list n es\/(a= .v (.slice none 0 0)/\es=[])
 | b=>a=b
def isNilRow:Res->Prop
 | .row x _ _ es=>x= .slice none 0 0/\es=[]
 | _=>False
def ub:List (Nat×D)->Sg->Prop
 | [],_=>True
 | (t,d)::l,σ=>PI (σ t) d/\ub l σ
def yt:List (Nat×Res)->ab->Prop
 | [],_=>True
 | (i,r)::l,H=>(H i=some r\/isNilRow r)/\yt l H
def qpg:List (Nat×D)->Sg
 | []=>fun _=> .any
 | (t,d)::l=>upd (qpg l) t d
def jv(ls:List Nat)(σ:Sg):Sg:=qpg (ls.map fun t=>(t,σ t))
def ku:List Nat->ab->ab
 | [],_=>fun _=>none
 | i::l,H=>ah (ku l H) i (H i)
def vc(S:Nat->Spc):CC->(Ex->Sg->ab->Prop)->Sg->ab->Prop
 | .skip,K,σ,H=>K .norm σ H
 | .reg l,K,σ,H=>Dp S l σ H (K .norm)
 | .regd pre tl,K,σ,H=>mq S pre σ (bp pre H) H fun σ H=>Dp S tl σ H (K .norm)
 | .seq a b,K,σ,H=>vc S a (fun e σ H=>match e with
   | .norm=>vc S b K σ H
   | e=>K e σ H) σ H
 | .ite c a b,K,σ,H=>match ev σ c with
   | .v (.bool t)=>(t=true->vc S a K σ H)/\(t=false->vc S b K σ H)
   | _=>False
 | .block id b,K,σ,H=>vc S b (fun e σ H=>match e with
   | .ex i=>if i=id then K .norm σ H else K (.ex i) σ H
   | e=>K e σ H) σ H
 | .loop _ b,K,σ,H=>∃inv:qkl,(∃x,inv.P x/\Wk σ H (inv.s x) (inv.h x))/\∀x,inv.P x->vc S b (fun e σ' H'=>match e with
    | .norm=>∃y,inv.P y/\Wk σ' H' (inv.s y) (inv.h y)/\inv.m y < inv.m x
    | e=>K e σ' H') (inv.s x) (inv.h x)
 | .exit id,K,σ,H=>K (.ex id) σ H
 | .ret,K,σ,H=>K .ret σ H
 | .keep ls lh c,K,σ,H=>vc S c K (jv ls σ) (ku lh H)
 | .cut _ c,K,σ,H=>∃ (σ':Sg) (H':ab),Wk σ H σ' H'/\vc S c K σ' H'
def bi:CC->CC
 | .reg l=> .reg (l.filter CI.real)
 | .regd pre tl=> .regd pre (tl.filter CI.real)
 | .seq a b=> .seq (bi a) (bi b)
 | .ite c a b=> .ite c (bi a) (bi b)
 | .block id b=> .block id (bi b)
 | .loop _ b=> .loop 0 (bi b)
 | .cut _ c=>bi c
 | .keep _ _ c=>bi c
 | c=>c
def bO(ops:Array Oper):Nat:=
 ((List.range (ops.size+1)).find? fun m=>(List.range ops.size).all fun j=>decide (j < m)||(List.range j).all fun i=>Up (WW ops) j i).getD ops.size
def COp.noRead:COp->Bool
 | .mv _| .nilck _| .faddr _ _| .ext _ _| .arith _ _ _| .cmp _ _ _| .not _| .conv _ _=>true
 | _=>false
def CI.noRead:CI->Bool
 | .op _ _ c=>c.noRead
 | .frz _ _=>false
def OD(ops:Array Oper)(cis:List CI)(m k:Nat):Bool:=
 decide (k<=m) && (List.range k).all fun j=>((cis[j]?).map CI.noRead).getD false||(List.range m).all fun i=>decide (i < k)||(((cis[i]?).map fun x=>x.wid.isNone).getD true)||Up (WW ops) i j
def CI.isSt:CI->Bool
 | .op _ _ (.store (some _) _ _ _)=>true
 | .op _ _ (.append (some r) _ _ _ _ _)=>decide (990<=r/\r < 1000)
 | _=>false
def CI.isLd:CI->Bool
 | .op _ _ (.load _ _ _)=>true
 | _=>false
def qmY(ops:Array Oper)(cis:List CI)(m:Nat):Option Nat:=do
 let f <- (List.range m).find? fun i=>((cis[i]?).map CI.isSt).getD false
 let k <- ((List.range (f+1)).reverse).find? fun k=>OD ops cis m k
 if(List.range k).any fun j=>((cis[j]?).map CI.isLd).getD false then some k else none
def VN(ops:Array Oper)(cis:List CI)(m:Nat):List CI:=
 match qmY ops cis m with
 | some k=>if OD ops cis m k then cis.take k++ .frz 0 0::(cis.take m).drop k else cis.take m
 | none=>cis.take m
def aB(P:Program)(im:List Nat)(N:Nat):Code->Option CC
 | .skip=>some .skip
 | .label _=>some .skip
 | .region _ ops false=>(jD P im N ops).map .reg
 | .region _ ops true=>do
   let cis <-jD P im N ops
   if Ui ops cis (bO ops)then some (.regd (VN ops cis (bO ops)) (cis.drop (bO ops)))else none
 | .seq a b=>do some (.seq (<-aB P im N a) (<-aB P im N b))
 | .cond c a b=>do if yG c then some (.ite c (<-aB P im N a) (<-aB P im N b))else none
 | .block id b=>do some (.block id (<-aB P im N b))
 | .loop b=>do some (.loop 0 (<-aB P im N b))
 | .exit id=>some (.exit id)
 | .ret=>some .ret
 | _=>none
section
variable {P:Program}{im:List Nat}{E:yL}{S:Nat->Spc}
theorem qhr{tp I:Nat->Prop}{w:World}{x:Value}{a b:D}(h:PI a b)(hr:R tp I w x a):R tp I w x b:=by
 unfold PI at h
 split at h
 ·exact .any x
 ·rcases h with rfl|⟨i,rfl⟩
  ·cases hr with
   | v _ h1 _=>exact .own _ _ h1
  ·cases hr with
   | own _ _ h1=>exact .own _ _ h1
 ·rcases h with rfl|⟨rfl,rfl⟩
  ·exact hr
  ·cases hr
   exact .nolist _ _ _
 ·subst h;exact hr
theorem StW.sub{tp:Nat->Prop}{H H':ab}{w:World}(h:StW E tp H w)(hs:∀i r,H' i=some r->H i=some r\/isNilRow r):
 StW E tp H' w/\∀x d,R tp (aO E.O tp H w) w x d->R tp (aO E.O tp H' w) w x d:=by
 have nilblk:∀r,isNilRow r->r.blk=none:=fun r hr=>by
  cases r with
  | box b c=>exact hr.elim
  | iter b s p=>exact hr.elim
  | tbox b s p=>exact hr.elim
  | mrow x es=>exact hr.elim
  | miter b c l=>exact hr.elim
  | row x el n es=>obtain⟨rfl,rfl⟩:=hr;rfl
 have hown:∀b,bI H' b->bI H b:=fun b ⟨i,r,h1,h2⟩=>by
  rcases hs i r h1 with h3|h3
  ·exact⟨i,r,h3,h2⟩
  ·rw[nilblk r h3]at h2;cases h2
 have move:∀x d,R tp (aO E.O tp H w) w x d->R tp (aO E.O tp H' w) w x d:=fun x d hr=>
  hr.mono (fun _ h=>h) (fun b hb=>⟨⟨hb.1,hb.2.1,hb.2.2.1,fun ho=>hb.2.2.2 (hown b ho)⟩,rfl⟩) (fun b _=> .refl _ _)
 refine⟨⟨h.hO,h.tpx,h.tpn,h.tpl,h.step,fun b hb=>h.loc b (hown b hb),⟨fun i j r s b h1 h2 h3 h4=>?_,fun i r b h1 h2=>?_,fun i r h1=>?_⟩⟩,move⟩
 ·rcases hs i r h1 with k1|k1
  ·rcases hs j s h2 with k2|k2
   ·exact h.sat.dis i j r s b k1 k2 h3 h4
   ·rw[nilblk s k2]at h4;cases h4
  ·rw[nilblk r k1]at h3;cases h3
 ·rcases hs i r h1 with k1|k1
  ·exact h.sat.out i r b k1 h2
  ·rw[nilblk r k1]at h2;cases h2
 ·rcases hs i r h1 with k1|k1
  ·exact(h.sat.ok i r k1).conv move (fun _ _=>rfl)
  ·cases r with
   | box b c=>exact k1.elim
   | iter b s p=>exact k1.elim
   | tbox b s p=>exact k1.elim
   | mrow x es=>exact k1.elim
   | miter b c l=>exact k1.elim
   | row x el n es=>
     obtain⟨rfl,rfl⟩:=k1
     exact⟨[],qyj _ _ _ _,by simp,fun k y c h=>by simp at h⟩
theorem FO{H:ab} :∀ {l:List Nat},∀i r,ku l H i=some r->H i=some r\/isNilRow r
 | [],i,r,h=>by simp[ku]at h
 | j::l,i,r,h=>by
   simp only[ku,ah]at h
   split at h
   ·rename_i e
    subst e
    exact .inl h
   ·exact FO i r h
theorem OM{tp I:Nat->Prop}{w:World}{a:Act}{σ:Sg}(hr:∀t,R tp I w (a.tmps.getD t undef) (σ t)):∀ {l:List Nat},∀t,R tp I w (a.tmps.getD t undef) (qpg (l.map fun t=>(t,σ t)) t)
 | [],t=> .any _
 | s::l,t=>by
   simp only[qxf,qpg,upd]
   split
   ·rename_i e
    subst e
    exact hr t
   ·exact OM hr t
def qkh(E:yL)(K:Ex->Sg->ab->Prop):Exit->Act->World->Prop
 | .normal,a,w=>∃σ H,St E σ H a w/\K .norm σ H
 | .exit i,a,w=>∃σ H,St E σ H a w/\K (.ex i) σ H
 | .ret,a,w=>∃σ H,St E σ H a w/\K .ret σ H
 | _,_,_=>False
def PostZ(E:yL)(z:List PanicEntry->Prop)(K:Ex->Sg->ab->Prop):Exit->Act->World->Prop
 | .normal,a,w=>∃σ H,St E σ H a w/\K .norm σ H
 | .exit i,a,w=>∃σ H,St E σ H a w/\K (.ex i) σ H
 | .ret,a,w=>∃σ H,St E σ H a w/\K .ret σ H
 | .panic c,a,w=>a.defers=E.ds/\U4 E z c w
 | _,_,_=>False
theorem PostZ.no{E:yL}{K:Ex->Sg->ab->Prop}{e:Exit}{a:Act}{w:World}(h:PostZ E Rc K e a w):qkh E K e a w:=by
 cases e <;> first|exact h|exact h.2.1.elim
def QuietL(P:Program)(S:Nat->Spc):List CI->Prop
 | []=>True
 | x::l=>((∀y∈l,lz x y=false)\/dh P Rc S x)/\QuietL P S l
theorem QuietL.get{P:Program}{S:Nat->Spc}{l:List CI} :QuietL P S l->∀ (j i:Nat) (x y:CI),j < i->l[j]? =some x->l[i]? =some y->lz x y=true->dh P Rc S x:=by
 induction l with
 | nil=>intro _ j i x y _ h;simp at h
 | cons z l ih=>
   intro hq j i x y hij hx hy ha
   obtain⟨h1,h2⟩:=hq
   rcases i with _|i
   ·omega
   rw[qxT]at hy
   rcases j with _|j
   ·rw[qyL]at hx
    have hx:=qw4 hx
    subst hx
    rcases h1 with h|h
    ·have:=h y (qwS hy)
     rw[this]at ha
     exact absurd ha (by simp)
    ·exact h
   ·rw[qxT]at hx
    exact ih h2 j i x y (by omega) hx hy ha
theorem Jk{P:Program}{S:Nat->Spc} :∀ {l:List CI},(∀x∈l,dh P Rc S x)->QuietL P S l
 | [],_=>trivial
 | x::l,h=>⟨.inr (h x (by simp)),Jk fun y hy=>h y (by simp[hy])⟩
def HC(P:Program)(z:List PanicEntry->Prop)(S:Nat->Spc):CC->Prop
 | .reg l=>∀x∈l,dh P z S x
 | .regd pre tl=>(∀x∈pre,dh P z S x)/\(∀x∈tl,dh P z S x)/\QuietL P S (pre.filter CI.real)
 | .seq a b=>HC P z S a/\HC P z S b
 | .ite _ a b=>HC P z S a/\HC P z S b
 | .block _ b=>HC P z S b
 | .loop _ b=>HC P z S b
 | .cut _ b=>HC P z S b
 | .keep _ _ b=>HC P z S b
 | _=>True
theorem OE{P:Program}{S:Nat->Spc}(h:∀f,Tri P f (S f).pt):∀x,dh P Rc S x
 | .op _ _ c=>Ze h c
 | .frz _ _=>trivial
theorem np{P:Program}{S:Nat->Spc}(h:∀f,Tri P f (S f).pt):∀cc,HC P Rc S cc
 | .reg l=>fun x _=>OE h x
 | .regd pre tl=>⟨fun x _=>OE h x,fun x _=>OE h x,Jk fun x _=>OE h x⟩
 | .seq a b=>⟨np h a,np h b⟩
 | .ite _ a b=>⟨np h a,np h b⟩
 | .block _ b=>np h b
 | .loop _ b=>np h b
 | .cut _ b=>np h b
 | .keep _ _ b=>np h b
 | .skip=>trivial
 | .exit _=>trivial
 | .ret=>trivial
def ug(x:CI)(Hr:ab):ab:=if x.noRead then fun _=>none else Hr
def py:List CI->ab->List (CI×ab)
 | [],_=>[]
 | .frz _ _::r,Hr=>py r (bp r Hr)
 | .op d g c::r,Hr=>(.op d g c,ug (.op d g c) Hr)::py r Hr
theorem Oi{c:COp}{dst:Option Nat}{σ:Sg}{Hr Hr' H:ab}{K:D->ab->Prop}(h:c.noRead=true):ay S c dst σ Hr H K↔ay S c dst σ Hr' H K:=by
 cases c <;> first|(simp[COp.noRead]at h;done)|exact qxR
theorem qa8{d:Option Nat}{g:Option (Nat×Bool)}{c:COp}{dst:Option Nat}{σ:Sg}{Hr H:ab}{K:D->ab->Prop} :ay S c dst σ (ug (.op d g c) Hr) H K↔ay S c dst σ Hr H K:=by
 unfold ug
 split
 ·rename_i h
  exact Oi h
 ·exact qxR
theorem Do{K:Sg->ab->Prop} :∀ (l:List CI) (σ:Sg) (Hr H:ab),mq S l σ Hr H K->qdV S (py l Hr) σ H K
 | [],σ,Hr,H,h=>h
 | .frz _ _::l,σ,Hr,H,h=>Do l σ (bp l Hr) H h
 | .op dst g c::r,σ,Hr,H,h=>by
   simp only[mq]at h
   simp only[py,qdV,LE,CI.dst]
   have mono:∀σ':Sg,ay S c dst σ' Hr H (fun d H'=>mq S r (fb σ' dst d) Hr H' K)->ay S c dst σ' (ug (.op dst g c) Hr) H (fun d H'=>qdV S (py r Hr) (fb σ' dst d) H' K):=fun σ' hp=>by
    obtain⟨pre,out,hf⟩:=JV S c dst σ' Hr (qQ H (c.wid dst))
    have hf:∀H',qQ H' (c.wid dst)=qQ H (c.wid dst)->∀K,ay S c dst σ' Hr H' K↔ (pre/\∀d u,out d u->K d (gi H' (c.wid dst) u)):=hf
    obtain⟨h1,h2⟩:=(hf H rfl _).1 hp
    exact qa8.2 ((hf H rfl _).2 ⟨h1,fun d u ho=>Do r _ Hr _ (h2 d u ho)⟩)
   cases g with
   | none=>exact mono σ h
   | some sb=>
     obtain⟨s,b⟩:=sb
     simp only[qn]at h
     split at h
     ·rename_i t e1
      simp only
      rw[e1]
      refine⟨fun e=>?_,fun e=>?_⟩
      ·have:=h.1 e
       rw[<-e,Ds e1]at this
       exact mono σ this
      ·have:=h.2 e
       rw[<-e,Ds e1]at this
       exact Do r _ Hr H this
     ·rename_i e1
      simp only
      rw[e1]
      exact Do r _ Hr H h
     ·exact h.elim
theorem xx(Hr:ab):∀ (l:List CI),(∀x∈l,x.real=true)->∀ (r:List CI),py (l++r) Hr=(l.map fun x=>(x,ug x Hr)) ++py r Hr
 | [],_,r=>rfl
 | .frz _ _::l,h,r=>by simp[CI.real]at h
 | .op _ _ _::l,h,r=>by
   simp only[qxA,py,qxf]
   rw[xx Hr l (fun x hx=>h x (by simp[hx])) r]
theorem CG{t:Nat}{H:ab} :∀ {l:List CI},(∀x∈l,x.real=true)->∀x∈l,ET x.wid t->bp l H t=none
 | .frz _ _::l,h,x,hx,hw=>by simp[CI.real]at h
 | .op _ _ _::l,h,x,hx,hw=>by
   simp only[bp]
   rcases qwT.1 hx with rfl|hx
   ·rw[if_pos hw]
   ·split
    ·rfl
    ·exact CG (fun x hx=>h x (by simp[hx])) x hx hw
theorem Af{H:ab} :∀ (l:List CI),Pz (bp l H) H
 | []=>fun _ _ h=>h
 | .frz _ _::l=>fun _ _ h=>h
 | .op _ _ _::l=>fun i r h=>by
   simp only[bp]at h
   split at h
   ·cases h
   ·exact Af l i r h
theorem MN{H:ab} :∀ (l:List CI) (a b:Nat) (r:List CI),(∀x∈l,x.real=true)->bp (l++ .frz a b::r) H=bp l H
 | [],_,_,_,_=>rfl
 | .frz _ _::l,_,_,_,h=>by simp[CI.real]at h
 | .op _ _ _::l,a,b,r,h=>by
   simp only[qxA,bp]
   rw[MN l a b r (fun x hx=>h x (by simp[hx]))]
theorem Q9{ops:Array Oper}{cis:List CI}{m:Nat}(h:Ui ops cis m=true):
 (∀i o,ops[i]? =some o->∀j∈F0 o,j < i)/\m<=ops.size/\(∀j,m<=j->j < ops.size->∀i,i < j->Up (WW ops) j i=true)/\
 (∀j,j < m->∀i,i < j->Up (WW ops) j i=true\/ ∃x y,cis[i]? =some x/\cis[j]? =some y/\lz x y=true):=by
 unfold Ui at h
 simp only[qwX,qwV,qyn,Bool.or_eq_true,decide_eq_true_eq]at h
 obtain⟨⟨⟨h0,h2⟩,h1⟩,hm⟩:=h
 refine⟨fun i o ho j hj=>?_,hm,fun j hmj hj i hi=>?_,fun j hj i hi=>?_⟩
 ·have hi:i < ops.size:=(qwW.1 ho).1
  have:=h0 i hi
  rw[ho]at this
  simp only[qyG,qxz,qwV,decide_eq_true_eq]at this
  exact this j hj
 ·rcases h2 j hj with h|h
  ·omega
  ·exact h i hi
 ·rcases h1 j hj i hi with h|h
  ·exact .inl h
  ·split at h
   ·rename_i x y e1 e2
    exact .inr ⟨x,y,e1,e2,h⟩
   ·cases h
theorem MO{α β:Type}{f:α->Option β} :∀ {l:List α} {r:List β} (m:Nat),l.mapM f=some r->(l.drop m).mapM f=some (r.drop m)
 | l,r,0,h=>by simpa using h
 | [],r,m+1,h=>by simp at h;subst h;simp
 | a::l,r,m+1,h=>by
   rw[qxu]at h
   simp only[qwR,qwN]at h
   obtain⟨x,hx,y,hy,h⟩:=h
   cases h
   simpa using MO m hy
theorem R1{ops:Array Oper}{id:Nat}{pre tl:List CI}{K:Ex->Sg->ab->Prop}{z:List PanicEntry->Prop}(hSp:∀x∈pre,dh P z S x)(hSt:∀x∈tl,dh P z S x)(hqu:QuietL P S (pre.filter CI.real))(hc:aB P im E.N (.region id ops true)=some (.regd pre (tl.filter CI.real)))
 {σ:Sg} {H:ab} {a:Act} {w:World} (hst:St E σ H a w) (hv:mq S pre σ (bp pre H) H fun σ H=>Dp S tl σ H (K .norm)):wpAny P .any ops (PostZ E z K) ops.size (Array.replicate ops.size false) a w.drew:=by
 simp only[aB,qwR,qwN]at hc
 obtain⟨cis,hcis,hc⟩:=hc
 split at hc
 ·rename_i hok
  simp only[qw2,CC.regd.injEq]at hc
  obtain⟨hpre,htl⟩:=hc
  obtain⟨hC0,hm,hC2,hC1⟩:=Q9 hok
  obtain⟨hclen,hcget⟩:=tA hcis
  have hst':St E σ H a w.drew:=by
   obtain⟨hd,hN,tp,hw,hr⟩:=hst
   have hmv:=hw.grow (OR w none)
   exact⟨hd,hN,tp,hmv.1,fun t=>hmv.2 _ _ (hr t)⟩
  have hreal:∀x∈cis,x.real=true:=fun x hx=>by
   obtain⟨i,hi⟩:=qxk.1 hx
   have hil:i < ops.size:=by rw[<-hclen];exact(qwP.1 hi).1
   obtain⟨y,h1,h2⟩:=hcget i ops[i] (by simp[hil])
   rw[hi]at h1
   cases h1
   obtain⟨g,c,rfl,_⟩:=fY h2
   rfl
  have hfil:pre.filter CI.real=cis.take (bO ops):=by
   have hall:∀l:List CI,(∀x∈l,x.real=true)->l.filter CI.real=l:=fun l h=>qzk.2 h
   rw[<-hpre]
   unfold VN
   split
   ·split
    ·rename_i k _ hok2
     unfold OD at hok2
     simp only[qwX,decide_eq_true_eq]at hok2
     rw[qyI,hall _ fun x hx=>hreal x (qxc hx),qx2]
     simp only[CI.real,qxw,if_false]
     rw[hall _ fun x hx=>hreal x (qxc (qxJ hx))]
     conv=>rhs;rw[<-qxs k (cis.take (bO ops)),qza,Nat.min_eq_left hok2.1]
    ·exact hall _ fun x hx=>hreal x (qxc hx)
   ·exact hall _ fun x hx=>hreal x (qxc hx)
  rw[hfil]at hqu
  have hSj:∀j x,j < bO ops->cis[j]? =some x->dh P z S x:=fun j x hj hx=>by
   refine hSp x ?_
   have hx':x∈pre.filter CI.real:=by
    rw[hfil,qxk]
    exact⟨j,by rw[qw8,if_pos hj];exact hx⟩
   exact(qx6.1 hx').1
  have hquiet:∀j i x y,j < i->i < bO ops->cis[j]? =some x->cis[i]? =some y->lz x y=true->dh P Rc S x:=fun j i x y hij hi hx hy ha=>
   hqu.get j i x y hij (by rw[qw8,if_pos (by omega)];exact hx) (by rw[qw8,if_pos hi];exact hy) ha
  obtain⟨k,hkm,hkok,hpre2⟩:∃k,k<=bO ops/\(∀i j x t,k<=i->i < bO ops->j < k->cis[i]? =some x->ET x.wid t->(∃y,cis[j]? =some y/\y.noRead=true)\/Up (WW ops) i j=true)/\
   py pre (bp pre H)=((cis.take k).map fun x=>(x,ug x (bp (cis.take k) H))) ++ (((cis.take (bO ops)).drop k).map fun x=>(x,ug x (bp ((cis.take (bO ops)).drop k) (bp (cis.take k) H)))):=by
   have hr1:∀n,∀x∈cis.take n,x.real=true:=fun n x hx=>hreal x (qxc hx)
   have hr2:∀n k,∀x∈ (cis.take n).drop k,x.real=true:=fun n k x hx=>hr1 n x (qxJ hx)
   have plain:pre=cis.take (bO ops)->∃k,k<=bO ops/\(∀i j x t,k<=i->i < bO ops->j < k->cis[i]? =some x->ET x.wid t->(∃y,cis[j]? =some y/\y.noRead=true)\/Up (WW ops) i j=true)/\
    py pre (bp pre H)=((cis.take k).map fun x=>(x,ug x (bp (cis.take k) H))) ++ (((cis.take (bO ops)).drop k).map fun x=>(x,ug x (bp ((cis.take (bO ops)).drop k) (bp (cis.take k) H)))):=fun e=>by
    refine⟨bO ops,qwY _,fun i j x t h1 h2=>by omega,?_⟩
    have:(cis.take (bO ops)).drop (bO ops)=[]:=by simp
    rw[e,this]
    have:=xx (bp (cis.take (bO ops)) H) (cis.take (bO ops)) (hr1 _) []
    simpa [py]using this
   have hpre':=hpre.symm
   unfold VN at hpre'
   split at hpre'
   ·rename_i k _
    split at hpre'
    ·rename_i hok2
     unfold OD at hok2
     simp only[qwX,decide_eq_true_eq,qwV,qyn,Bool.or_eq_true]at hok2
     refine⟨k,hok2.1,fun i j x t h1 h2 h3 h4 h5=>?_,?_⟩
     ·rcases hok2.2 j h3 with h|h
      ·left
       cases hj:cis[j]? with
       | none=>rw[hj]at h;simp at h
       | some y=>rw[hj]at h;exact⟨y,rfl,by simpa using h⟩
      ·right
       rcases h i h2 with(h|h)|h
       ·omega
       ·rw[h4]at h;exfalso;revert h;cases hw:x.wid with
        | none=>rw[hw]at h5;exact h5.elim
        | some q=>simp[hw]
       ·exact h
     ·rw[hpre',MN _ _ _ _ (hr1 _),xx _ _ (hr1 _)]
      simp only[py]
      congr 1
      have:=xx (bp ((cis.take (bO ops)).drop k) (bp (cis.take k) H)) ((cis.take (bO ops)).drop k) (hr2 _ _) []
      simpa [py]using this
    ·exact plain hpre'
   ·exact plain hpre'
  have hHr:∀j,∃Hr,Hr=ug ((cis[j]?).getD (.frz 0 0)) (if j < k then bp (cis.take k) H else bp ((cis.take (bO ops)).drop k) (bp (cis.take k) H)):=fun j=>⟨_,rfl⟩
  have hr1:∀n,∀x∈cis.take n,x.real=true:=fun n x hx=>hreal x (qxc hx)
  have hr2:∀n k,∀x∈ (cis.take n).drop k,x.real=true:=fun n k x hx=>hr1 n x (qxJ hx)
  have mem1:∀i x,i < k->cis[i]? =some x->x∈cis.take k:=fun i x hi hx=>qxk.2 ⟨i,by rw[qw8,if_pos hi];exact hx⟩
  have mem2:∀i x,k<=i->i < bO ops->cis[i]? =some x->x∈ (cis.take (bO ops)).drop k:=fun i x h1 h2 hx=>qxk.2 ⟨i -k,by rw[qxv,qw8,if_pos (by omega),show k+ (i -k)=i by omega];exact hx⟩
  have none1:∀i x t,i < k->cis[i]? =some x->ET x.wid t->bp (cis.take k) H t=none:=fun i x t hi hx ht=>CG (hr1 _) x (mem1 i x hi hx) ht
  have none2:∀i x t,i < bO ops->cis[i]? =some x->ET x.wid t->bp ((cis.take (bO ops)).drop k) (bp (cis.take k) H) t=none:=fun i x t hi hx ht=>by
   by_cases hik:i < k
   ·cases he:bp ((cis.take (bO ops)).drop k) (bp (cis.take k) H) t with
    | none=>rfl
    | some r=>
      have:=Af _ _ _ he
      rw[none1 i x t hik hx ht]at this
      cases this
   ·exact CG (hr2 _ _) x (mem2 i x (by omega) hi hx) ht
  have hrOf_none:∀x (Hr:ab) t,Hr t=none->ug x Hr t=none:=fun x Hr t h=>by
   unfold ug;split
   ·rfl
   ·exact h
  have hrOf_le:∀x (Hr:ab),Pz Hr H->Pz (ug x Hr) H:=fun x Hr h=>by
   unfold ug;split
   ·intro i r hi;cases hi
   ·exact h
  have hmain:=qe1 (im:=im) (cis:=cis) (tl:=tl) (Hr:=fun j=>ug ((cis[j]?).getD (.frz 0 0)) (if j < k then bp (cis.take k) H else bp ((cis.take (bO ops)).drop k) (bp (cis.take k) H))) (Q:=PostZ E z K) (fun c a w' h1 h2=>⟨h1,h2⟩) (fun σ H a w hs hk=>⟨σ,H,hs,hk⟩) hcis hC0 hSj hquiet hm hC2 hC1 (by
   rw[<-htl]
   exact MO _ hcis) hSt (fun i j x t hi hj hij hx ht=>by
   by_cases hjk:j < k
   ·simp only[if_pos hjk]
    by_cases hik:i < k
    ·exact .inl (hrOf_none _ _ _ (none1 i x t hik hx ht))
    ·rcases hkok i j x t (by omega) hi hjk hx ht with⟨y,hy,hn⟩|h
     ·left
      simp only[hy,qxz,ug]
      rw[if_pos hn]
     ·exact .inr h
   ·simp only[if_neg hjk]
    exact .inl (hrOf_none _ _ _ (none2 i x t hi hx ht))) (fun i j x t hi hj hij hx ht=>by
   by_cases hjk:j < k
   ·simp only[if_pos hjk]
    exact hrOf_none _ _ _ (none1 i x t (by omega) hx ht)
   ·simp only[if_neg hjk]
    exact hrOf_none _ _ _ (none2 i x t hi hx ht)) (bO ops) (List.range (bO ops)) (Array.replicate ops.size false) (by simp) (by
   simp only[qy1]
   intro i j hi hj hij
   simpa using hij) (fun i hi=>by simpa using hi) (by simp) (fun i hi=>by
    constructor
    ·intro h
     simp[wH,hi]at h
    ·rintro⟨h1,h2⟩
     exact absurd (qyn.2 h1) h2) (fun i o ho hd=>by
    exfalso
    simp[wH]at hd
    have hi:i < ops.size:=(qwW.1 ho).1
    simp[hi]at hd) σ H a w.drew hst' (fun i _=>by
    refine hrOf_le _ _ ?_
    split
    ·exact Af _
    ·exact fun i r hi=>Af _ _ _ (Af _ _ _ hi)) (by
    have hv2:=Do _ _ _ _ hv
    rw[hpre2]at hv2
    have hlist:((List.range (bO ops)).map fun i=>((cis[i]?).getD (.frz 0 0),ug ((cis[i]?).getD (.frz 0 0)) (if i < k then bp (cis.take k) H else bp ((cis.take (bO ops)).drop k) (bp (cis.take k) H))))=
     ((cis.take k).map fun x=>(x,ug x (bp (cis.take k) H))) ++ (((cis.take (bO ops)).drop k).map fun x=>(x,ug x (bp ((cis.take (bO ops)).drop k) (bp (cis.take k) H)))):=by
     have hcl:bO ops<=cis.length:=by omega
     have hgeti:∀i,i < bO ops->∃x,cis[i]? =some x:=fun i hi=>⟨_,qwQ (by omega)⟩
     apply qxM
     intro i
     have hl1:((cis.take k).map fun x=>(x,ug x (bp (cis.take k) H))).length=k:=by simp;omega
     by_cases him:i < bO ops
     ·obtain⟨x,hx⟩:=hgeti i him
      rw[qw6,qxW him]
      simp only[qyG,hx,qxz]
      by_cases hik:i < k
      ·rw[qw9 (by omega),qw6,qw8,if_pos hik,hx]
       simp[hik]
      ·rw[qwZ (by omega),hl1,qw6,qxv,qw8,if_pos (show k+ (i -k) < bO ops by omega),show k+ (i -k)=i by omega,hx]
       simp[hik]
     ·have e1:((cis.take k).map fun x=>(x,ug x (bp (cis.take k) H))).length+ (((cis.take (bO ops)).drop k).map fun x=>(x,ug x (bp ((cis.take (bO ops)).drop k) (bp (cis.take k) H)))).length=bO ops:=by
       rw[hl1,qxC,qxN,qxj];omega
      rw[qxm (by simp;omega),qxm]
      rw[qxd,e1];omega
    rw[hlist]
    exact hv2)
  have hsz:(List.range (bO ops)).length+ (ops.size -bO ops)=ops.size:=by simp;omega
  rw[hsz]at hmain
  exact hmain
 ·cases hc
theorem UK{ops:Array Oper}{id:Nat}{pre tl:List CI}{K:Ex->Sg->ab->Prop}{z:List PanicEntry->Prop}(hSp:∀x∈pre,dh P z S x)(hSt:∀x∈tl,dh P z S x)(hqu:QuietL P S (pre.filter CI.real))(hmix:P.follows .mixedOrders=true)(hc:aB P im E.N (.region id ops true)=some (.regd pre (tl.filter CI.real)))
 {σ:Sg} {H:ab} {a:Act} {w:World} (hst:St E σ H a w) (hv:mq S pre σ (bp pre H) H fun σ H=>Dp S tl σ H (K .norm)):(Code.region id ops true).wp P (PostZ E z K) a w:=
 wp_region_any hmix (R1 hSp hSt hqu hc hst hv)
theorem aY{N:Nat}{code:Code}{c:CC}(h:aB P im N code=some c):
 (c= .skip/\(code= .skip\/ ∃l,code= .label l))\/(∃id ops l,code= .region id ops false/\c= .reg l/\jD P im N ops=some l)\/(∃id ops pre tl,code= .region id ops true/\c= .regd pre tl)\/
 (∃a b x y,code= .seq a b/\c= .seq x y/\aB P im N a=some x/\aB P im N b=some y)\/
 (∃q a b x y,code= .cond q a b/\c= .ite q x y/\yG q=true/\aB P im N a=some x/\aB P im N b=some y)\/
 (∃id a x,code= .block id a/\c= .block id x/\aB P im N a=some x)\/(∃a x,code= .loop a/\c= .loop 0 x/\aB P im N a=some x)\/
 (∃id,code= .exit id/\c= .exit id)\/(code= .ret/\c= .ret):=by
 cases code with
 | skip=>simp only[aB]at h;cases h;exact .inl ⟨rfl, .inl rfl⟩
 | label l=>simp only[aB]at h;cases h;exact .inl ⟨rfl, .inr ⟨l,rfl⟩⟩
 | region id ops d=>
   cases d
   ·simp only[aB]at h
    obtain⟨l,hl,rfl⟩:=aF h
    exact .inr (.inl ⟨id,ops,l,rfl,rfl,hl⟩)
   ·simp only[aB,qwR,qwN]at h
    obtain⟨cis,_,h⟩:=h
    split at h
    ·cases h;exact .inr (.inr (.inl ⟨id,ops,_,_,rfl,rfl⟩))
    ·cases h
 | seq a b=>
   simp only[aB,qwR,qwN]at h
   obtain⟨x,hx,y,hy,h⟩:=h
   cases h
   exact .inr (.inr (.inr (.inl ⟨a,b,x,y,rfl,rfl,hx,hy⟩)))
 | cond q a b=>
   simp only[aB,qwR]at h
   split at h
   ·rename_i hq
    simp only[qwN]at h
    obtain⟨x,hx,y,hy,h⟩:=h
    cases h
    exact .inr (.inr (.inr (.inr (.inl ⟨q,a,b,x,y,rfl,rfl,hq,hx,hy⟩))))
   ·cases h
 | block id b=>
   simp only[aB,qwR,qwN]at h
   obtain⟨x,hx,h⟩:=h
   cases h
   exact .inr (.inr (.inr (.inr (.inr (.inl ⟨id,b,x,rfl,rfl,hx⟩)))))
 | loop b=>
   simp only[aB,qwR,qwN]at h
   obtain⟨x,hx,h⟩:=h
   cases h
   exact .inr (.inr (.inr (.inr (.inr (.inr (.inl ⟨b,x,rfl,rfl,hx⟩))))))
 | exit id=>simp only[aB]at h;cases h;exact .inr (.inr (.inr (.inr (.inr (.inr (.inr (.inl ⟨id,rfl,rfl⟩)))))))
 | ret=>simp only[aB]at h;cases h;exact .inr (.inr (.inr (.inr (.inr (.inr (.inr (.inr ⟨rfl,rfl⟩)))))))
 | _=>simp[aB]at h
theorem Ua{ops:Array Oper}{id:Nat}{l:List CI}{K:Ex->Sg->ab->Prop}{z:List PanicEntry->Prop}(hS:∀x∈l,dh P z S x)(hc:jD P im E.N ops=some (l.filter CI.real))
 {σ:Sg} {H:ab} {a:Act} {w:World} (hst:St E σ H a w) (hv:Dp S l σ H (K .norm)):(Code.region id ops false).wp P (PostZ E z K) a w:=
 wp_region_list (Mm (im:=im) (Q:=PostZ E z K) (K:=K .norm) (fun c a w' h1 h2=>⟨h1,h2⟩) (fun σ H a w hs hk=>⟨σ,H,hs,hk⟩) l hS ops.toList hc σ H a w hst hv)
theorem Md{z:List PanicEntry->Prop}(hmix:P.follows .mixedOrders=true)(cc:CC):HC P z S cc->∀ (code:Code),aB P im E.N code=some (bi cc)->∀ (K:Ex->Sg->ab->Prop) (σ:Sg) (H:ab) (a:Act) (w:World),
 St E σ H a w->vc S cc K σ H->code.wp P (PostZ E z K) a w:=by
 induction cc with
 | skip=>
   intro hqu code hc K σ H a w hst hv
   rcases aY hc with⟨_,h⟩|⟨_,_,_,_,h,_⟩|⟨_,_,_,_,_,h⟩|⟨_,_,_,_,_,h,_⟩|⟨_,_,_,_,_,_,h,_⟩|⟨_,_,_,_,h,_⟩|⟨_,_,_,h,_⟩|⟨_,_,h⟩|⟨_,h⟩ <;> try (simp[bi]at h;done)
   rcases h with rfl|⟨l,rfl⟩
   ·exact wp_skip ⟨σ,H,hst,hv⟩
   ·exact wp_label ⟨σ,H,hst,hv⟩
 | reg l=>
   intro hqu code hc K σ H a w hst hv
   rcases aY hc with⟨h,_⟩|⟨id,ops,l',rfl,h,hl⟩|⟨_,_,_,_,_,h⟩|⟨_,_,_,_,_,h,_⟩|⟨_,_,_,_,_,_,h,_⟩|⟨_,_,_,_,h,_⟩|⟨_,_,_,h,_⟩|⟨_,_,h⟩|⟨_,h⟩ <;> try (simp[bi]at h;done)
   simp only[bi,CC.reg.injEq]at h
   subst h
   exact Ua hqu hl hst hv
 | regd pre tl=>
   intro hqu code hc K σ H a w hst hv
   rcases aY hc with⟨h,_⟩|⟨_,_,_,_,h,_⟩|⟨id,ops,pre',tl',rfl,h⟩|⟨_,_,_,_,_,h,_⟩|⟨_,_,_,_,_,_,h,_⟩|⟨_,_,_,_,h,_⟩|⟨_,_,_,h,_⟩|⟨_,_,h⟩|⟨_,h⟩ <;> try (simp[bi]at h;done)
   exact UK hqu.1 hqu.2.1 hqu.2.2 hmix hc hst hv
 | seq x y ihx ihy=>
   intro hqu code hc K σ H a w hst hv
   rcases aY hc with⟨h,_⟩|⟨_,_,_,_,h,_⟩|⟨_,_,_,_,_,h⟩|⟨p,q,x',y',rfl,h,hx,hy⟩|⟨_,_,_,_,_,_,h,_⟩|⟨_,_,_,_,h,_⟩|⟨_,_,_,h,_⟩|⟨_,_,h⟩|⟨_,h⟩ <;> try (simp[bi]at h;done)
   simp only[bi,CC.seq.injEq]at h
   obtain⟨rfl,rfl⟩:=h
   refine wp_seq (qyg ?_ (ihx hqu.1 p hx _ σ H a w hst hv))
   intro e a' w' hp
   cases e with
   | normal=>
     obtain⟨σ',H',hs,hk⟩:=hp
     exact ihy hqu.2 q hy K σ' H' a' w' hs hk
   | exit id=>exact hp
   | ret=>exact hp
   | goto l=>exact hp
   | panic c=>exact hp
   | outgrown=>exact hp
 | ite q x y ihx ihy=>
   intro hqu code hc K σ H a w hst hv
   rcases aY hc with⟨h,_⟩|⟨_,_,_,_,h,_⟩|⟨_,_,_,_,_,h⟩|⟨_,_,_,_,_,h,_⟩|⟨q',p1,p2,x',y',rfl,h,hq,hx,hy⟩|⟨_,_,_,_,h,_⟩|⟨_,_,_,h,_⟩|⟨_,_,h⟩|⟨_,h⟩ <;> try (simp[bi]at h;done)
   simp only[bi,CC.ite.injEq]at h
   obtain⟨rfl,rfl,rfl⟩:=h
   simp only[vc]at hv
   have hst0:=hst
   obtain⟨hd,hN,tp,hw,hr⟩:=hst
   have hqr:=UE hr q hq
   split at hv
   ·rename_i t e1
    rw[e1]at hqr
    refine wp_cond_split hqr.inv_v (fun h=>?_) (fun h=>?_)
    ·exact ihx hqu.1 p1 hx K σ H a w hst0 (hv.1 h)
    ·exact ihy hqu.2 p2 hy K σ H a w hst0 (hv.2 h)
   ·exact hv.elim
 | block id b ih=>
   intro hqu code hc K σ H a w hst hv
   rcases aY hc with⟨h,_⟩|⟨_,_,_,_,h,_⟩|⟨_,_,_,_,_,h⟩|⟨_,_,_,_,_,h,_⟩|⟨_,_,_,_,_,_,h,_⟩|⟨id',p,x',rfl,h,hx⟩|⟨_,_,_,h,_⟩|⟨_,_,h⟩|⟨_,h⟩ <;> try (simp[bi]at h;done)
   simp only[bi,CC.block.injEq]at h
   obtain⟨rfl,rfl⟩:=h
   refine wp_block (qyg ?_ (ih hqu p hx _ σ H a w hst hv))
   intro e a' w' hp
   cases e with
   | normal=>exact hp
   | exit i=>
     obtain⟨σ',H',hs,hk⟩:=hp
     simp only[Exit.inBlock]
     by_cases hi:i=id
     ·simp only[if_pos hi]at hk ⊢
      exact⟨σ',H',hs,hk⟩
     ·simp only[if_neg hi]at hk ⊢
      exact⟨σ',H',hs,hk⟩
   | ret=>exact hp
   | goto l=>exact hp
   | panic c=>exact hp
   | outgrown=>exact hp
 | loop key b ih=>
   intro hqu code hc K σ H a w hst hv
   rcases aY hc with⟨h,_⟩|⟨_,_,_,_,h,_⟩|⟨_,_,_,_,_,h⟩|⟨_,_,_,_,_,h,_⟩|⟨_,_,_,_,_,_,h,_⟩|⟨_,_,_,_,h,_⟩|⟨p,x',rfl,h,hx⟩|⟨_,_,h⟩|⟨_,h⟩ <;> try (simp[bi]at h;done)
   simp only[bi,CC.loop.injEq,true_and]at h
   subst h
   simp only[vc]at hv
   obtain⟨inv,⟨x0,hP0,hm0⟩,hround⟩:=hv
   ·skip
    intro fr k cs
    have key:∀ (n:Nat) (x:inv.X),inv.P x->inv.m x=n->∀a w,St E (inv.s x) (inv.h x) a w->
     ∃e a' w',PostZ E z K e a' w'/\Arrives P (lone (fr.at a (.code p:: .inLoop p::k)) cs w) fr k cs e a' w':=by
     intro n
     induction n using Nat.strongRecOn with
     | _ n ihn=>
       intro x hP hm a w hst
       obtain⟨e,a1,w1,hq,harr⟩:=ih hqu p hx _ _ _ a w hst (hround x hP) fr (.inLoop p::k) cs
       cases e with
       | normal=>
         obtain⟨σ',H',hs,y,hPy,hy1,hlt⟩:=hq
         obtain⟨e2,a2,w2,hq2,harr2⟩:=ihn (inv.m y) (by omega) y hPy rfl a1 w1 (hy1 _ _ _ hs)
         exact⟨e2,a2,w2,hq2, .of_steps (Steps.trans harr (.one step_inLoop)) harr2⟩
       | exit id=>
         obtain⟨σ',H',hs,hk⟩:=hq
         exact⟨.exit id,a1,w1,⟨σ',H',hs,hk⟩, .pass (x:= .inLoop p) rfl (fun _ _=> .inl (by simp)) harr⟩
       | ret=>
         obtain⟨σ',H',hs,hk⟩:=hq
         exact⟨.ret,a1,w1,⟨σ',H',hs,hk⟩, .pass (x:= .inLoop p) rfl (fun _ _=> .inl (by simp)) harr⟩
       | goto l=>exact hq.elim
       | panic c=>exact⟨.panic c,a1,w1,hq, .pass (x:= .inLoop p) rfl (fun _ _=> .inl (by simp)) harr⟩
       | outgrown=>exact hq.elim
    obtain⟨e,a',w',hq,harr⟩:=key _ x0 hP0 rfl a w (hm0 _ _ _ hst)
    exact⟨e,a',w',hq, .of_steps (.one step_loop) harr⟩
 | exit id=>
   intro hqu code hc K σ H a w hst hv
   rcases aY hc with⟨h,_⟩|⟨_,_,_,_,h,_⟩|⟨_,_,_,_,_,h⟩|⟨_,_,_,_,_,h,_⟩|⟨_,_,_,_,_,_,h,_⟩|⟨_,_,_,_,h,_⟩|⟨_,_,_,h,_⟩|⟨id',rfl,h⟩|⟨_,h⟩ <;> try (simp[bi]at h;done)
   simp only[bi,CC.exit.injEq]at h
   subst h
   exact wp_exit ⟨σ,H,hst,hv⟩
 | ret=>
   intro hqu code hc K σ H a w hst hv
   rcases aY hc with⟨h,_⟩|⟨_,_,_,_,h,_⟩|⟨_,_,_,_,_,h⟩|⟨_,_,_,_,_,h,_⟩|⟨_,_,_,_,_,_,h,_⟩|⟨_,_,_,_,h,_⟩|⟨_,_,_,h,_⟩|⟨_,_,h⟩|⟨rfl,h⟩ <;> try (simp[bi]at h;done)
   exact wp_ret ⟨σ,H,hst,hv⟩
 | cut key c ih=>
   intro hqu code hc K σ H a w hst hv
   simp only[vc]at hv
   obtain⟨σ',H',hwk,hrest⟩:=hv
   exact ih hqu code hc K _ _ a w (hwk _ _ _ hst) hrest
 | keep ls lh c ih=>
   intro hqu code hc K σ H a w hst hv
   simp only[vc]at hv
   refine ih hqu code hc K _ _ a w ?_ hv
   obtain⟨hd,hN,tp,hw,hr⟩:=hst
   have hm:=hw.sub (FO (l:=lh))
   refine⟨hd,hN,tp,hm.1,fun t=>hm.2 _ _ ?_⟩
   unfold jv
   exact OM hr t
theorem vU(hS:∀f,Tri P f (S f).pt)(hmix:P.follows .mixedOrders=true)(cc:CC):∀ (code:Code),aB P im E.N code=some (bi cc)->∀ (K:Ex->Sg->ab->Prop) (σ:Sg) (H:ab) (a:Act) (w:World),
 St E σ H a w->vc S cc K σ H->code.wp P (qkh E K) a w:=fun code hc K σ H a w hst hv=>
 qyg (fun _ _ _ h=>h.no) (Md (z:=Rc) hmix cc (np hS cc) code hc K σ H a w hst hv)
end
end Go.Gv
