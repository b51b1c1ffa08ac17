/- A part of the framework and of the walks: T6. -/
import Derived.Test.YtfbleenmepoodaaGreatDoorGa13
set_option linter.unusedSimpArgs false
set_option linter.unusedVariables false
set_option linter.unusedSectionVars false
set_option linter.defProp false
namespace Go.Gv
variable {dq:Prop}
inductive Ex where
 | norm
 | ex (id:Nat)
 | ret
inductive CC where
 | skip
 | reg (l:List CI)
 | regd (pre tl:List CI)
 | seq (a b:CC)
 | ite (c:Operand) (a b:CC)
 | block (id:Nat) (b:CC)
 | loop (key:Nat) (b:CC)
 | exit (id:Nat)
 | ret
 | cut (key:Nat) (c:CC)
 | keep (ls lh:List Nat) (c:CC)
structure YD where
 X:Type
 P:X->Prop
 s:X->Sg
 h:X->aa
 m:X->Nat
def Wk(σ:Sg)(H:aa)(σ':Sg)(H':aa):Prop:=∀ (E:sw) (a:Act) (w:World),St E σ H a w->St E σ' H' a w
def MC(a b:D):Prop:=
 match b with
 | .any=>True
 | .own _ x=>a= .v x\/ ∃i,a= .own i x
 | .list n es=>a= .list n es\/(a= .v (.slice none 0 0)/\es=[])
 | b=>a=b
def isNilRow:Res->Prop
 | .row x _ _ es=>x= .slice none 0 0/\es=[]
 | _=>False
def ot:List (Nat×D)->Sg->Prop
 | [],_=>True
 | (t,d)::l,σ=>MC (σ t) d/\ot l σ
def sf:List (Nat×Res)->aa->Prop
 | [],_=>True
 | (i,r)::l,H=>(H i=some r\/isNilRow r)/\sf l H
def qdk:List (Nat×D)->Sg
 | []=>λ_=> .any
 | (t,d)::l=>upd (qdk l) t d
def gC(ls:List Nat)(σ:Sg):Sg:=qdk (ls.map λt=>(t,σ t))
def hL:List Nat->aa->aa
 | [],_=>λ_=>none
 | i::l,H=>aj (hL l H) i (H i)
def vc(S:Nat->Spc):CC->(Ex->Sg->aa->Prop)->Sg->aa->Prop
 | .skip,K,σ,H=>K .norm σ H
 | .reg l,K,σ,H=>xH S l σ H (K .norm)
 | .regd pre tl,K,σ,H=>gh S pre σ (aU pre H) H λσ H=>xH S tl σ H (K .norm)
 | .seq a b,K,σ,H=>vc S a (λe σ H=>match e with
   | .norm=>vc S b K σ H
   | e=>K e σ H) σ H
 | .ite c a b,K,σ,H=>match ev σ c with
   | .v (.bool t)=>(t=true->vc S a K σ H)/\(t=false->vc S b K σ H)
   | _=>False
 | .block id b,K,σ,H=>vc S b (λe σ H=>match e with
   | .ex i=>if i=id then K .norm σ H else K (.ex i) σ H
   | e=>K e σ H) σ H
 | .loop _ b,K,σ,H=>∃inv:YD,(∃x,inv.P x/\Wk σ H (inv.s x) (inv.h x))/\∀x,inv.P x->vc S b (λe σ' H'=>match e with
    | .norm=>∃y,inv.P y/\Wk σ' H' (inv.s y) (inv.h y)/\inv.m y < inv.m x
    | e=>K e σ' H') (inv.s x) (inv.h x)
 | .exit id,K,σ,H=>K (.ex id) σ H
 | .ret,K,σ,H=>K .ret σ H
 | .keep ls lh c,K,σ,H=>vc S c K (gC ls σ) (hL lh H)
 | .cut _ c,K,σ,H=>∃ (σ':Sg) (H':aa),Wk σ H σ' H'/\vc S c K σ' H'
def aY:CC->CC
 | .reg l=> .reg (l.filter CI.real)
 | .regd pre tl=> .regd pre (tl.filter CI.real)
 | .seq a b=> .seq (aY a) (aY b)
 | .ite c a b=> .ite c (aY a) (aY b)
 | .block id b=> .block id (aY b)
 | .loop _ b=> .loop 0 (aY b)
 | .cut _ c=>aY c
 | .keep _ _ c=>aY c
 | c=>c
def br(ops:Array Oper):Nat:=
 ((List.range (ops.size+1)).find? λm=>(List.range ops.size).all λj=>decide (j < m)||(List.range j).all λi=>L2 (NT ops) j i).getD ops.size
def COp.noRead:COp->Bool
 | .mv _| .nilck _| .faddr _ _| .ext _ _| .arith _ _ _| .cmp _ _ _| .not _| .conv _ _=>true
 | _=>false
def CI.noRead:CI->Bool
 | .op _ _ c=>c.noRead
 | .frz _ _=>false
def G9(ops:Array Oper)(cis:List CI)(m k:Nat):Bool:=
 decide (k<=m) && (List.range k).all λj=>((cis[j]?).map CI.noRead).getD false||(List.range m).all λi=>decide (i < k)||(((cis[i]?).map λx=>x.wid.isNone).getD true)||L2 (NT ops) i j
def CI.isSt:CI->Bool
 | .op _ _ (.store (some _) _ _ _)=>true
 | .op _ _ (.append (some r) _ _ _ _ _)=>decide (990<=r/\r < 1000)
 | _=>false
def CI.isLd:CI->Bool
 | .op _ _ (.load _ _ _)=>true
 | _=>false
def qbl(ops:Array Oper)(cis:List CI)(m:Nat):Option Nat:=do
 let f <- (List.range m).find? λi=>((cis[i]?).map CI.isSt).getD false
 let k <- ((List.range (f+1)).reverse).find? λk=>G9 ops cis m k
 if(List.range k).any λj=>((cis[j]?).map CI.isLd).getD false then some k else none
def M8(ops:Array Oper)(cis:List CI)(m:Nat):List CI:=
 match qbl ops cis m with
 | some k=>if G9 ops cis m k then cis.take k++ .frz 0 0::(cis.take m).drop k else cis.take m
 | none=>cis.take m
def aw(P:Program)(im:List Nat)(N:Nat):Code->Option CC
 | .skip=>some .skip
 | .label _=>some .skip
 | .region _ ops false=>(gI P im N ops).map .reg
 | .region _ ops true=>do
   let cis <-gI P im N ops
   if LU ops cis (br ops)then some (.regd (M8 ops cis (br ops)) (cis.drop (br ops)))else none
 | .seq a b=>do some (.seq (<-aw P im N a) (<-aw P im N b))
 | .cond c a b=>do if sq c then some (.ite c (<-aw P im N a) (<-aw P im N b))else none
 | .block id b=>do some (.block id (<-aw P im N b))
 | .loop b=>do some (.loop 0 (<-aw P im N b))
 | .exit id=>some (.exit id)
 | .ret=>some .ret
 | _=>none
section
variable {P:Program}{im:List Nat}{E:sw}{S:Nat->Spc}
def Wh{tp I:Nat->Prop}{w:World}{x:Value}{a b:D}(h:MC a b)(hr:R tp I w x a):R tp I w x b:=by
 unfold MC at h;split at h
 ·exact .any x
 ·rcases h with rfl|⟨i,rfl⟩
  ·cases hr with
   | v _ h1 _=>exact .own _ _ h1
  ·cases hr with
   | own _ _ h1=>exact .own _ _ h1
 ·rcases h with rfl|⟨rfl,rfl⟩
  ·exact hr
  ·cases hr;exact .nolist _ _ _
 ·subst h;exact hr
theorem StW.sub{tp:Nat->Prop}{H H':aa}{w:World}(h:StW E tp H w)(hs:∀i r,H' i=some r->H i=some r\/isNilRow r):
 StW E tp H' w/\∀x d,R tp (aI E.O tp H w) w x d->R tp (aI E.O tp H' w) w x d:=by
 have nilblk:∀r,isNilRow r->r.blk=none:=λr hr=>by
  cases r with
  | box b c=>exact hr.elim
  | iter b s p=>exact hr.elim
  | tbox b s p=>exact hr.elim
  | mrow x es=>exact hr.elim
  | miter b c l=>exact hr.elim
  | raw k=>exact hr.elim
  | row x el n es=>obtain⟨rfl,rfl⟩:=hr;rfl
 have hown:∀b,bF H' b->bF H b:=λb ⟨i,r,h1,h2⟩=>by
  rcases hs i r h1 with h3|h3
  ·exact⟨i,r,h3,h2⟩
  ·rw[nilblk r h3]at h2;cases h2
 have move:∀x d,R tp (aI E.O tp H w) w x d->R tp (aI E.O tp H' w) w x d:=λx d hr=>
  hr.mono (λ_ h=>h) (λb hb=>⟨⟨hb.1,hb.2.1,hb.2.2.1,λho=>hb.2.2.2 (hown b ho)⟩,rfl⟩) (λb _=> .refl _ _)
 refine⟨⟨h.hO,h.tpx,h.tpn,h.tpl,h.step,λb hb=>h.loc b (hown b hb),⟨λi j r s b h1 h2 h3 h4=>?_,λi r b h1 h2=>?_,λi r h1=>?_⟩⟩,move⟩
 ·rcases hs i r h1 with k1|k1
  ·rcases hs j s h2 with k2|k2
   ·exact h.sat.dis i j r s b k1 k2 h3 h4
   ·rw[nilblk s k2]at h4;cases h4
  ·rw[nilblk r k1]at h3;cases h3
 ·rcases hs i r h1 with k1|k1
  ·exact h.sat.out i r b k1 h2
  ·rw[nilblk r k1]at h2;cases h2
 ·rcases hs i r h1 with k1|k1
  ·exact(h.sat.ok i r k1).conv move (λ_ _=>rfl)
  ·cases r with
   | box b c=>exact k1.elim
   | iter b s p=>exact k1.elim
   | tbox b s p=>exact k1.elim
   | mrow x es=>exact k1.elim
   | miter b c l=>exact k1.elim
   | raw k=>exact k1.elim
   | row x el n es=>
     obtain⟨rfl,rfl⟩:=k1;exact⟨[],qkR _ _ _ _,by simp,λk y c h=>by simp at h⟩
def Ai{H:aa} :∀ {l:List Nat},∀i r,hL l H i=some r->H i=some r\/isNilRow r
 | [],i,r,h=>by simp[hL]at h
 | j::l,i,r,h=>by
   simp only[hL,aj]at h;split at h
   ·rename_i e;subst e;exact .inl h
   ·exact Ai i r h
def Hi{tp I:Nat->Prop}{w:World}{a:Act}{σ:Sg}(hr:∀t,R tp I w (a.tmps.getD t undef) (σ t)):∀ {l:List Nat},∀t,R tp I w (a.tmps.getD t undef) (qdk (l.map λt=>(t,σ t)) t)
 | [],t=> .any _
 | s::l,t=>by
   simp only[qj2,qdk,upd];split
   ·rename_i e;subst e;exact hr t
   ·exact Hi hr t
def Yx(E:sw)(K:Ex->Sg->aa->Prop):Exit->Act->World->Prop
 | .normal,a,w=>∃σ H,St E σ H a w/\K .norm σ H
 | .exit i,a,w=>∃σ H,St E σ H a w/\K (.ex i) σ H
 | .ret,a,w=>∃σ H,St E σ H a w/\K .ret σ H
 | _,_,_=>False
def PostZ(E:sw)(z:List PanicEntry->Prop)(K:Ex->Sg->aa->Prop):Exit->Act->World->Prop
 | .normal,a,w=>∃σ H,St E σ H a w/\K .norm σ H
 | .exit i,a,w=>∃σ H,St E σ H a w/\K (.ex i) σ H
 | .ret,a,w=>∃σ H,St E σ H a w/\K .ret σ H
 | .panic c,a,w=>a.defers=E.ds/\ME E z c w
 | _,_,_=>False
def PostZ.no{E:sw}{K:Ex->Sg->aa->Prop}{e:Exit}{a:Act}{w:World}(h:PostZ E JN K e a w):Yx E K e a w:=by
 cases e <;> first|exact h|exact h.2.1.elim
def QuietL(dq:Prop)(P:Program)(S:Nat->Spc):List CI->Prop
 | []=>True
 | x::l=>((∀y∈l,iI x y=false)\/cx dq P JN S x)/\QuietL dq P S l
def QuietL.get{P:Program}{S:Nat->Spc}{l:List CI} :QuietL dq P S l->∀ (j i:Nat) (x y:CI),j < i->l[j]? =some x->l[i]? =some y->iI x y=true->cx dq P JN S x:=by
 induction l with
 | nil=>intro _ j i x y _ h;simp at h
 | cons z l ih=>
   intro hq j i x y hij hx hy ha;obtain⟨h1,h2⟩:=hq;rcases i with _|i
   ·omega
   rw[qkY]at hy;rcases j with _|j
   ·rw[List.getElem?_cons_zero]at hx;have hx:=qjJ hx;subst hx;rcases h1 with h|h
    ·have:=h y (qjD hy);rw[this]at ha;exact absurd ha (by simp)
    ·exact h
   ·rw[qkY]at hx;exact ih h2 j i x y (by omega) hx hy ha
def CR{P:Program}{S:Nat->Spc} :∀ {l:List CI},(∀x∈l,cx dq P JN S x)->QuietL dq P S l
 | [],_=>trivial
 | x::l,h=>⟨.inr (h x (by simp)),CR λy hy=>h y (by simp[hy])⟩
def Bp(dq:Prop)(P:Program)(z:List PanicEntry->Prop)(S:Nat->Spc):CC->Prop
 | .reg l=>∀x∈l,cx dq P z S x
 | .regd pre tl=>(∀x∈pre,cx dq P z S x)/\(∀x∈tl,cx dq P z S x)/\QuietL dq P S (pre.filter CI.real)
 | .seq a b=>Bp dq P z S a/\Bp dq P z S b
 | .ite _ a b=>Bp dq P z S a/\Bp dq P z S b
 | .block _ b=>Bp dq P z S b
 | .loop _ b=>Bp dq P z S b
 | .cut _ b=>Bp dq P z S b
 | .keep _ _ b=>Bp dq P z S b
 | _=>True
def Ha{P:Program}{S:Nat->Spc}(h:∀f,Tri dq P f (S f).pt):∀x,cx dq P JN S x
 | .op _ _ c=>Pn h c
 | .frz _ _=>trivial
def jw{P:Program}{S:Nat->Spc}(h:∀f,Tri dq P f (S f).pt):∀cc,Bp dq P JN S cc
 | .reg l=>λx _=>Ha h x
 | .regd pre tl=>⟨λx _=>Ha h x,λx _=>Ha h x,CR λx _=>Ha h x⟩
 | .seq a b=>⟨jw h a,jw h b⟩
 | .ite _ a b=>⟨jw h a,jw h b⟩
 | .block _ b=>jw h b
 | .loop _ b=>jw h b
 | .cut _ b=>jw h b
 | .keep _ _ b=>jw h b
 | .skip=>trivial
 | .exit _=>trivial
 | .ret=>trivial
def oz(x:CI)(Hr:aa):aa:=if x.noRead thenλ_=>none else Hr
def kH:List CI->aa->List (CI×aa)
 | [],_=>[]
 | .frz _ _::r,Hr=>kH r (aU r Hr)
 | .op d g c::r,Hr=>(.op d g c,oz (.op d g c) Hr)::kH r Hr
def GO{c:COp}{dst:Option Nat}{σ:Sg}{Hr Hr' H:aa}{K:D->aa->Prop}(h:c.noRead=true):au S c dst σ Hr H K↔au S c dst σ Hr' H K:=by
 cases c <;> first|(simp[COp.noRead]at h;done)|exact qkt
def QU{d:Option Nat}{g:Option (Nat×Bool)}{c:COp}{dst:Option Nat}{σ:Sg}{Hr H:aa}{K:D->aa->Prop} :au S c dst σ (oz (.op d g c) Hr) H K↔au S c dst σ Hr H K:=by
 unfold oz;split
 ·rename_i h;exact GO h
 ·exact qkt
theorem xG{K:Sg->aa->Prop} :∀ (l:List CI) (σ:Sg) (Hr H:aa),gh S l σ Hr H K->Tg S (kH l Hr) σ H K
 | [],σ,Hr,H,h=>h
 | .frz _ _::l,σ,Hr,H,h=>xG l σ (aU l Hr) H h
 | .op dst g c::r,σ,Hr,H,h=>by
   simp only[gh]at h;simp only[kH,Tg,Ep,CI.dst];have mono:∀σ':Sg,au S c dst σ' Hr H (λd H'=>gh S r (du σ' dst d) Hr H' K)->au S c dst σ' (oz (.op dst g c) Hr) H (λd H'=>Tg S (kH r Hr) (du σ' dst d) H' K):=λσ' hp=>by
    obtain⟨pre,out,hf⟩:=Dg S c dst σ' Hr (nB H (c.wid dst));have hf:∀H',nB H' (c.wid dst)=nB H (c.wid dst)->∀K,au S c dst σ' Hr H' K↔ (pre/\∀d u,out d u->K d (fQ H' (c.wid dst) u)):=hf;obtain⟨h1,h2⟩:=(hf H rfl _).1 hp;exact QU.2 ((hf H rfl _).2 ⟨h1,λd u ho=>xG r _ Hr _ (h2 d u ho)⟩)
   cases g with
   | none=>exact mono σ h
   | some sb=>
     obtain⟨s,b⟩:=sb;simp only[iG]at h;split at h
     ·rename_i t e1;simp only;rw[e1];refine⟨λe=>?_,λe=>?_⟩
      ·have:=h.1 e;rw[<-e,xJ e1]at this;exact mono σ this
      ·have:=h.2 e;rw[<-e,xJ e1]at this;exact xG r _ Hr H this
     ·rename_i e1;simp only;rw[e1];exact xG r _ Hr H h
     ·exact h.elim
def rr(Hr:aa):∀ (l:List CI),(∀x∈l,x.real=true)->∀ (r:List CI),kH (l++r) Hr=(l.map λx=>(x,oz x Hr)) ++kH r Hr
 | [],_,r=>rfl
 | .frz _ _::l,h,r=>by simp[CI.real]at h
 | .op _ _ _::l,h,r=>by
   simp only[qku,kH,qj2];rw[rr Hr l (λx hx=>h x (by simp[hx])) r]
def wA{t:Nat}{H:aa} :∀ {l:List CI},(∀x∈l,x.real=true)->∀x∈l,vt x.wid t->aU l H t=none
 | .frz _ _::l,h,x,hx,hw=>by simp[CI.real]at h
 | .op _ _ _::l,h,x,hx,hw=>by
   simp only[aU];rcases qjW.1 hx with rfl|hx
   ·rw[if_pos hw]
   ·split
    ·rfl
    ·exact wA (λx hx=>h x (by simp[hx])) x hx hw
def tJ{H:aa} :∀ (l:List CI),Ia (aU l H) H
 | []=>λ_ _ h=>h
 | .frz _ _::l=>λ_ _ h=>h
 | .op _ _ _::l=>λi r h=>by
   simp only[aU]at h;split at h
   ·cases h
   ·exact tJ l i r h
def Fj{H:aa} :∀ (l:List CI) (a b:Nat) (r:List CI),(∀x∈l,x.real=true)->aU (l++ .frz a b::r) H=aU l H
 | [],_,_,_,_=>rfl
 | .frz _ _::l,_,_,_,h=>by simp[CI.real]at h
 | .op _ _ _::l,a,b,r,h=>by
   simp only[qku,aU];rw[Fj l a b r (λx hx=>h x (by simp[hx]))]
theorem JM{ops:Array Oper}{cis:List CI}{m:Nat}(h:LU ops cis m=true):
 (∀i o,ops[i]? =some o->∀j∈Aq o,j < i)/\m<=ops.size/\(∀j,m<=j->j < ops.size->∀i,i < j->L2 (NT ops) j i=true)/\
 (∀j,j < m->∀i,i < j->L2 (NT ops) j i=true\/ ∃x y,cis[i]? =some x/\cis[j]? =some y/\iI x y=true):=by
 unfold LU at h;simp only[qjE,qjF,qk6,Bool.or_eq_true,decide_eq_true_eq]at h;obtain⟨⟨⟨h0,h2⟩,h1⟩,hm⟩:=h;refine⟨λi o ho j hj=>?_,hm,λj hmj hj i hi=>?_,λj hj i hi=>?_⟩
 ·have hi:i < ops.size:=(qjG.1 ho).1;have:=h0 i hi;rw[ho]at this;simp only[qlc,qj7,qjF,decide_eq_true_eq]at this;exact this j hj
 ·rcases h2 j hj with h|h
  ·omega
  ·exact h i hi
 ·rcases h1 j hj i hi with h|h
  ·exact .inl h
  ·split at h
   ·rename_i x y e1 e2;exact .inr ⟨x,y,e1,e2,h⟩
   ·cases h
def Fk{α β:Type}{f:α->Option β} :∀ {l:List α} {r:List β} (m:Nat),l.mapM f=some r->(l.drop m).mapM f=some (r.drop m)
 | l,r,0,h=>by simpa using h
 | [],r,m+1,h=>by simp at h;subst h;simp
 | a::l,r,m+1,h=>by
   rw[qkd]at h;simp only[qjB,qjy]at h;obtain⟨x,hx,y,hy,h⟩:=h;cases h;simpa using Fk m hy
theorem Kq{ops:Array Oper}{id:Nat}{pre tl:List CI}{K:Ex->Sg->aa->Prop}{z:List PanicEntry->Prop}(hSp:∀x∈pre,cx E.dq P z S x)(hSt:∀x∈tl,cx E.dq P z S x)(hqu:QuietL E.dq P S (pre.filter CI.real))(hc:aw P im E.N (.region id ops true)=some (.regd pre (tl.filter CI.real)))
 {σ:Sg} {H:aa} {a:Act} {w:World} (hst:St E σ H a w) (hv:gh S pre σ (aU pre H) H λσ H=>xH S tl σ H (K .norm)):wpAny P .any ops (PostZ E z K) ops.size (Array.replicate ops.size false) a w.drew:=by
 simp only[aw,qjB,qjy]at hc;obtain⟨cis,hcis,hc⟩:=hc;split at hc
 ·rename_i hok;simp only[qjO,CC.regd.injEq]at hc;obtain⟨hpre,htl⟩:=hc;obtain⟨hC0,hm,hC2,hC1⟩:=JM hok;obtain⟨hclen,hcget⟩:=nS hcis;have hst':St E σ H a w.drew:=by
   obtain⟨hd,hN,tp,hw,hr⟩:=hst;have hmv:=hw.grow (Hp w none);exact⟨hd,hN,tp,hmv.1,λt=>hmv.2 _ _ (hr t)⟩
  have hreal:∀x∈cis,x.real=true:=λx hx=>by
   obtain⟨i,hi⟩:=qjY.1 hx;have hil:i < ops.size:=by rw[<-hclen];exact(qjA.1 hi).1
   obtain⟨y,h1,h2⟩:=hcget i ops[i] (by simp[hil]);rw[hi]at h1;cases h1;obtain⟨g,c,rfl,_⟩:=eH h2;rfl
  have hfil:pre.filter CI.real=cis.take (br ops):=by
   have hall:∀l:List CI,(∀x∈l,x.real=true)->l.filter CI.real=l:=λl h=>qlM.2 h
   rw[<-hpre];unfold M8;split
   ·split
    ·rename_i k _ hok2;unfold G9 at hok2;simp only[qjE,decide_eq_true_eq]at hok2;rw[qkZ,hall _ λx hx=>hreal x (qjX hx),qkC];simp only[CI.real,qkc,if_false];rw[hall _ λx hx=>hreal x (qjX (qkh hx))]
     conv=>rhs;rw[<-qkr k (cis.take (br ops)),qlF,Nat.min_eq_left hok2.1]
    ·exact hall _ λx hx=>hreal x (qjX hx)
   ·exact hall _ λx hx=>hreal x (qjX hx)
  rw[hfil]at hqu;have hSj:∀j x,j < br ops->cis[j]? =some x->cx E.dq P z S x:=λj x hj hx=>by
   refine hSp x ?_;have hx':x∈pre.filter CI.real:=by
    rw[hfil,qjY];exact⟨j,by rw[qjS,if_pos hj];exact hx⟩
   exact(qk0.1 hx').1
  have hquiet:∀j i x y,j < i->i < br ops->cis[j]? =some x->cis[i]? =some y->iI x y=true->cx E.dq P JN S x:=λj i x y hij hi hx hy ha=>
   hqu.get j i x y hij (by rw[qjS,if_pos (by omega)];exact hx) (by rw[qjS,if_pos hi];exact hy) ha
  obtain⟨k,hkm,hkok,hpre2⟩:∃k,k<=br ops/\(∀i j x t,k<=i->i < br ops->j < k->cis[i]? =some x->vt x.wid t->(∃y,cis[j]? =some y/\y.noRead=true)\/L2 (NT ops) i j=true)/\
   kH pre (aU pre H)=((cis.take k).map λx=>(x,oz x (aU (cis.take k) H))) ++ (((cis.take (br ops)).drop k).map λx=>(x,oz x (aU ((cis.take (br ops)).drop k) (aU (cis.take k) H)))):=by
   have hr1:∀n,∀x∈cis.take n,x.real=true:=λn x hx=>hreal x (qjX hx)
   have hr2:∀n k,∀x∈ (cis.take n).drop k,x.real=true:=λn k x hx=>hr1 n x (qkh hx)
   have plain:pre=cis.take (br ops)->∃k,k<=br ops/\(∀i j x t,k<=i->i < br ops->j < k->cis[i]? =some x->vt x.wid t->(∃y,cis[j]? =some y/\y.noRead=true)\/L2 (NT ops) i j=true)/\
    kH pre (aU pre H)=((cis.take k).map λx=>(x,oz x (aU (cis.take k) H))) ++ (((cis.take (br ops)).drop k).map λx=>(x,oz x (aU ((cis.take (br ops)).drop k) (aU (cis.take k) H)))):=λe=>by
    refine⟨br ops,qjL _,λi j x t h1 h2=>by omega,?_⟩;have:(cis.take (br ops)).drop (br ops)=[]:=by simp
    rw[e,this];have:=rr (aU (cis.take (br ops)) H) (cis.take (br ops)) (hr1 _) [];simpa [kH]using this
   have hpre':=hpre.symm;unfold M8 at hpre';split at hpre'
   ·rename_i k _;split at hpre'
    ·rename_i hok2;unfold G9 at hok2;simp only[qjE,decide_eq_true_eq,qjF,qk6,Bool.or_eq_true]at hok2;refine⟨k,hok2.1,λi j x t h1 h2 h3 h4 h5=>?_,?_⟩
     ·rcases hok2.2 j h3 with h|h
      ·left;cases hj:cis[j]? with
       | none=>rw[hj]at h;simp at h
       | some y=>rw[hj]at h;exact⟨y,rfl,by simpa using h⟩
      ·right;rcases h i h2 with(h|h)|h
       ·omega
       ·rw[h4]at h;exfalso;revert h;cases hw:x.wid with
        | none=>rw[hw]at h5;exact h5.elim
        | some q=>simp[hw]
       ·exact h
     ·rw[hpre',Fj _ _ _ _ (hr1 _),rr _ _ (hr1 _)];simp only[kH];congr 1;have:=rr (aU ((cis.take (br ops)).drop k) (aU (cis.take k) H)) ((cis.take (br ops)).drop k) (hr2 _ _) [];simpa [kH]using this
    ·exact plain hpre'
   ·exact plain hpre'
  have hHr:∀j,∃Hr,Hr=oz ((cis[j]?).getD (.frz 0 0)) (if j < k then aU (cis.take k) H else aU ((cis.take (br ops)).drop k) (aU (cis.take k) H)):=λj=>⟨_,rfl⟩
  have hr1:∀n,∀x∈cis.take n,x.real=true:=λn x hx=>hreal x (qjX hx)
  have hr2:∀n k,∀x∈ (cis.take n).drop k,x.real=true:=λn k x hx=>hr1 n x (qkh hx)
  have mem1:∀i x,i < k->cis[i]? =some x->x∈cis.take k:=λi x hi hx=>qjY.2 ⟨i,by rw[qjS,if_pos hi];exact hx⟩
  have mem2:∀i x,k<=i->i < br ops->cis[i]? =some x->x∈ (cis.take (br ops)).drop k:=λi x h1 h2 hx=>qjY.2 ⟨i -k,by rw[qkb,qjS,if_pos (by omega),show k+ (i -k)=i by omega];exact hx⟩
  have none1:∀i x t,i < k->cis[i]? =some x->vt x.wid t->aU (cis.take k) H t=none:=λi x t hi hx ht=>wA (hr1 _) x (mem1 i x hi hx) ht
  have none2:∀i x t,i < br ops->cis[i]? =some x->vt x.wid t->aU ((cis.take (br ops)).drop k) (aU (cis.take k) H) t=none:=λi x t hi hx ht=>by
   by_cases hik:i < k
   ·cases he:aU ((cis.take (br ops)).drop k) (aU (cis.take k) H) t with
    | none=>rfl
    | some r=>
      have:=tJ _ _ _ he;rw[none1 i x t hik hx ht]at this;cases this
   ·exact wA (hr2 _ _) x (mem2 i x (by omega) hi hx) ht
  have hrOf_none:∀x (Hr:aa) t,Hr t=none->oz x Hr t=none:=λx Hr t h=>by
   unfold oz;split
   ·rfl
   ·exact h
  have hrOf_le:∀x (Hr:aa),Ia Hr H->Ia (oz x Hr) H:=λx Hr h=>by
   unfold oz;split
   ·intro i r hi;cases hi
   ·exact h
  have hmain:=Uj (im:=im) (cis:=cis) (tl:=tl) (Hr:=λj=>oz ((cis[j]?).getD (.frz 0 0)) (if j < k then aU (cis.take k) H else aU ((cis.take (br ops)).drop k) (aU (cis.take k) H))) (Q:=PostZ E z K) (λc a w' h1 h2=>⟨h1,h2⟩) (λσ H a w hs hk=>⟨σ,H,hs,hk⟩) hcis hC0 hSj hquiet hm hC2 hC1 (by
   rw[<-htl];exact Fk _ hcis) hSt (λi j x t hi hj hij hx ht=>by
   by_cases hjk:j < k
   ·simp only[if_pos hjk];by_cases hik:i < k
    ·exact .inl (hrOf_none _ _ _ (none1 i x t hik hx ht))
    ·rcases hkok i j x t (by omega) hi hjk hx ht with⟨y,hy,hn⟩|h
     ·left;simp only[hy,qj7,oz];rw[if_pos hn]
     ·exact .inr h
   ·simp only[if_neg hjk];exact .inl (hrOf_none _ _ _ (none2 i x t hi hx ht))) (λi j x t hi hj hij hx ht=>by
   by_cases hjk:j < k
   ·simp only[if_pos hjk];exact hrOf_none _ _ _ (none1 i x t (by omega) hx ht)
   ·simp only[if_neg hjk];exact hrOf_none _ _ _ (none2 i x t hi hx ht)) (br ops) (List.range (br ops)) (Array.replicate ops.size false) (by simp) (by
   simp only[List.pairwise_iff_getElem];intro i j hi hj hij;simpa using hij) (λi hi=>by simpa using hi) (by simp) (λi hi=>by
    constructor
    ·intro h;simp[qD,hi]at h
    ·rintro⟨h1,h2⟩;exact absurd (qk6.2 h1) h2) (λi o ho hd=>by
    exfalso;simp[qD]at hd;have hi:i < ops.size:=(qjG.1 ho).1;simp[hi]at hd) σ H a w.drew hst' (λi _=>by
    refine hrOf_le _ _ ?_;split
    ·exact tJ _
    ·exactλi r hi=>tJ _ _ _ (tJ _ _ _ hi)) (by
    have hv2:=xG _ _ _ _ hv;rw[hpre2]at hv2;have hlist:((List.range (br ops)).map λi=>((cis[i]?).getD (.frz 0 0),oz ((cis[i]?).getD (.frz 0 0)) (if i < k then aU (cis.take k) H else aU ((cis.take (br ops)).drop k) (aU (cis.take k) H))))=
     ((cis.take k).map λx=>(x,oz x (aU (cis.take k) H))) ++ (((cis.take (br ops)).drop k).map λx=>(x,oz x (aU ((cis.take (br ops)).drop k) (aU (cis.take k) H)))):=by
     have hcl:br ops<=cis.length:=by omega
     have hgeti:∀i,i < br ops->∃x,cis[i]? =some x:=λi hi=>⟨_,qjC (by omega)⟩
     apply qkQ;intro i;have hl1:((cis.take k).map λx=>(x,oz x (aU (cis.take k) H))).length=k:=by simp;omega
     by_cases him:i < br ops
     ·obtain⟨x,hx⟩:=hgeti i him;rw[qjU,qkX him];simp only[qlc,hx,qj7];by_cases hik:i < k
      ·rw[qjQ (by omega),qjU,qjS,if_pos hik,hx];simp[hik]
      ·rw[qjK (by omega),hl1,qjU,qkb,qjS,if_pos (show k+ (i -k) < br ops by omega),show k+ (i -k)=i by omega,hx];simp[hik]
     ·have e1:((cis.take k).map λx=>(x,oz x (aU (cis.take k) H))).length+ (((cis.take (br ops)).drop k).map λx=>(x,oz x (aU ((cis.take (br ops)).drop k) (aU (cis.take k) H)))).length=br ops:=by
       rw[hl1,qka,qkz,qj3];omega
      rw[qks (by simp;omega),qks];rw[qj4,e1];omega
    rw[hlist];exact hv2)
  have hsz:(List.range (br ops)).length+ (ops.size -br ops)=ops.size:=by simp;omega
  rw[hsz]at hmain;exact hmain
 ·cases hc
def Mq{ops:Array Oper}{id:Nat}{pre tl:List CI}{K:Ex->Sg->aa->Prop}{z:List PanicEntry->Prop}(hSp:∀x∈pre,cx E.dq P z S x)(hSt:∀x∈tl,cx E.dq P z S x)(hqu:QuietL E.dq P S (pre.filter CI.real))(hmix:P.follows .mixedOrders=true)(hc:aw P im E.N (.region id ops true)=some (.regd pre (tl.filter CI.real)))
 {σ:Sg} {H:aa} {a:Act} {w:World} (hst:St E σ H a w) (hv:gh S pre σ (aU pre H) H λσ H=>xH S tl σ H (K .norm)):(Code.region id ops true).wp P (PostZ E z K) a w:=
 wp_region_any hmix (Kq hSp hSt hqu hc hst hv)
theorem aN{N:Nat}{code:Code}{c:CC}(h:aw P im N code=some c):
 (c= .skip/\(code= .skip\/ ∃l,code= .label l))\/(∃id ops l,code= .region id ops false/\c= .reg l/\gI P im N ops=some l)\/(∃id ops pre tl,code= .region id ops true/\c= .regd pre tl)\/
 (∃a b x y,code= .seq a b/\c= .seq x y/\aw P im N a=some x/\aw P im N b=some y)\/
 (∃q a b x y,code= .cond q a b/\c= .ite q x y/\sq q=true/\aw P im N a=some x/\aw P im N b=some y)\/
 (∃id a x,code= .block id a/\c= .block id x/\aw P im N a=some x)\/(∃a x,code= .loop a/\c= .loop 0 x/\aw P im N a=some x)\/
 (∃id,code= .exit id/\c= .exit id)\/(code= .ret/\c= .ret):=by
 cases code with
 | skip=>simp only[aw]at h;cases h;exact .inl ⟨rfl, .inl rfl⟩
 | label l=>simp only[aw]at h;cases h;exact .inl ⟨rfl, .inr ⟨l,rfl⟩⟩
 | region id ops d=>
   cases d
   ·simp only[aw]at h;obtain⟨l,hl,rfl⟩:=ay h;exact .inr (.inl ⟨id,ops,l,rfl,rfl,hl⟩)
   ·simp only[aw,qjB,qjy]at h;obtain⟨cis,_,h⟩:=h;split at h
    ·cases h;exact .inr (.inr (.inl ⟨id,ops,_,_,rfl,rfl⟩))
    ·cases h
 | seq a b=>
   simp only[aw,qjB,qjy]at h;obtain⟨x,hx,y,hy,h⟩:=h;cases h;exact .inr (.inr (.inr (.inl ⟨a,b,x,y,rfl,rfl,hx,hy⟩)))
 | cond q a b=>
   simp only[aw,qjB]at h;split at h
   ·rename_i hq;simp only[qjy]at h;obtain⟨x,hx,y,hy,h⟩:=h;cases h;exact .inr (.inr (.inr (.inr (.inl ⟨q,a,b,x,y,rfl,rfl,hq,hx,hy⟩))))
   ·cases h
 | block id b=>
   simp only[aw,qjB,qjy]at h;obtain⟨x,hx,h⟩:=h;cases h;exact .inr (.inr (.inr (.inr (.inr (.inl ⟨id,b,x,rfl,rfl,hx⟩)))))
 | loop b=>
   simp only[aw,qjB,qjy]at h;obtain⟨x,hx,h⟩:=h;cases h;exact .inr (.inr (.inr (.inr (.inr (.inr (.inl ⟨b,x,rfl,rfl,hx⟩))))))
 | exit id=>simp only[aw]at h;cases h;exact .inr (.inr (.inr (.inr (.inr (.inr (.inr (.inl ⟨id,rfl,rfl⟩)))))))
 | ret=>simp only[aw]at h;cases h;exact .inr (.inr (.inr (.inr (.inr (.inr (.inr (.inr ⟨rfl,rfl⟩)))))))
 | _=>simp[aw]at h
def LM{ops:Array Oper}{id:Nat}{l:List CI}{K:Ex->Sg->aa->Prop}{z:List PanicEntry->Prop}(hS:∀x∈l,cx E.dq P z S x)(hc:gI P im E.N ops=some (l.filter CI.real))
 {σ:Sg} {H:aa} {a:Act} {w:World} (hst:St E σ H a w) (hv:xH S l σ H (K .norm)):(Code.region id ops false).wp P (PostZ E z K) a w:=
 wp_region_list (EY (im:=im) (Q:=PostZ E z K) (K:=K .norm) (λc a w' h1 h2=>⟨h1,h2⟩) (λσ H a w hs hk=>⟨σ,H,hs,hk⟩) l hS ops.toList hc σ H a w hst hv)
theorem ER{z:List PanicEntry->Prop}(hmix:P.follows .mixedOrders=true)(cc:CC):Bp E.dq P z S cc->∀ (code:Code),aw P im E.N code=some (aY cc)->∀ (K:Ex->Sg->aa->Prop) (σ:Sg) (H:aa) (a:Act) (w:World),
 St E σ H a w->vc S cc K σ H->code.wp P (PostZ E z K) a w:=by
 induction cc with
 | skip=>
   intro hqu code hc K σ H a w hst hv;rcases aN hc with⟨_,h⟩|⟨_,_,_,_,h,_⟩|⟨_,_,_,_,_,h⟩|⟨_,_,_,_,_,h,_⟩|⟨_,_,_,_,_,_,h,_⟩|⟨_,_,_,_,h,_⟩|⟨_,_,_,h,_⟩|⟨_,_,h⟩|⟨_,h⟩ <;> try (simp[aY]at h;done)
   rcases h with rfl|⟨l,rfl⟩
   ·exact wp_skip ⟨σ,H,hst,hv⟩
   ·exact wp_label ⟨σ,H,hst,hv⟩
 | reg l=>
   intro hqu code hc K σ H a w hst hv;rcases aN hc with⟨h,_⟩|⟨id,ops,l',rfl,h,hl⟩|⟨_,_,_,_,_,h⟩|⟨_,_,_,_,_,h,_⟩|⟨_,_,_,_,_,_,h,_⟩|⟨_,_,_,_,h,_⟩|⟨_,_,_,h,_⟩|⟨_,_,h⟩|⟨_,h⟩ <;> try (simp[aY]at h;done)
   simp only[aY,CC.reg.injEq]at h;subst h;exact LM hqu hl hst hv
 | regd pre tl=>
   intro hqu code hc K σ H a w hst hv;rcases aN hc with⟨h,_⟩|⟨_,_,_,_,h,_⟩|⟨id,ops,pre',tl',rfl,h⟩|⟨_,_,_,_,_,h,_⟩|⟨_,_,_,_,_,_,h,_⟩|⟨_,_,_,_,h,_⟩|⟨_,_,_,h,_⟩|⟨_,_,h⟩|⟨_,h⟩ <;> try (simp[aY]at h;done)
   exact Mq hqu.1 hqu.2.1 hqu.2.2 hmix hc hst hv
 | seq x y ihx ihy=>
   intro hqu code hc K σ H a w hst hv;rcases aN hc with⟨h,_⟩|⟨_,_,_,_,h,_⟩|⟨_,_,_,_,_,h⟩|⟨p,q,x',y',rfl,h,hx,hy⟩|⟨_,_,_,_,_,_,h,_⟩|⟨_,_,_,_,h,_⟩|⟨_,_,_,h,_⟩|⟨_,_,h⟩|⟨_,h⟩ <;> try (simp[aY]at h;done)
   simp only[aY,CC.seq.injEq]at h;obtain⟨rfl,rfl⟩:=h;refine wp_seq (qkM ?_ (ihx hqu.1 p hx _ σ H a w hst hv));intro e a' w' hp;cases e with
   | normal=>
     obtain⟨σ',H',hs,hk⟩:=hp;exact ihy hqu.2 q hy K σ' H' a' w' hs hk
   | exit id=>exact hp
   | ret=>exact hp
   | goto l=>exact hp
   | panic c=>exact hp
   | outgrown=>exact hp
 | ite q x y ihx ihy=>
   intro hqu code hc K σ H a w hst hv;rcases aN hc with⟨h,_⟩|⟨_,_,_,_,h,_⟩|⟨_,_,_,_,_,h⟩|⟨_,_,_,_,_,h,_⟩|⟨q',p1,p2,x',y',rfl,h,hq,hx,hy⟩|⟨_,_,_,_,h,_⟩|⟨_,_,_,h,_⟩|⟨_,_,h⟩|⟨_,h⟩ <;> try (simp[aY]at h;done)
   simp only[aY,CC.ite.injEq]at h;obtain⟨rfl,rfl,rfl⟩:=h;simp only[vc]at hv;have hst0:=hst;obtain⟨hd,hN,tp,hw,hr⟩:=hst;have hqr:=Mj hr q hq;split at hv
   ·rename_i t e1;rw[e1]at hqr;refine wp_cond_split hqr.inv_v (λh=>?_) (λh=>?_)
    ·exact ihx hqu.1 p1 hx K σ H a w hst0 (hv.1 h)
    ·exact ihy hqu.2 p2 hy K σ H a w hst0 (hv.2 h)
   ·exact hv.elim
 | block id b ih=>
   intro hqu code hc K σ H a w hst hv;rcases aN hc with⟨h,_⟩|⟨_,_,_,_,h,_⟩|⟨_,_,_,_,_,h⟩|⟨_,_,_,_,_,h,_⟩|⟨_,_,_,_,_,_,h,_⟩|⟨id',p,x',rfl,h,hx⟩|⟨_,_,_,h,_⟩|⟨_,_,h⟩|⟨_,h⟩ <;> try (simp[aY]at h;done)
   simp only[aY,CC.block.injEq]at h;obtain⟨rfl,rfl⟩:=h;refine wp_block (qkM ?_ (ih hqu p hx _ σ H a w hst hv));intro e a' w' hp;cases e with
   | normal=>exact hp
   | exit i=>
     obtain⟨σ',H',hs,hk⟩:=hp;simp only[Exit.inBlock];by_cases hi:i=id
     ·simp only[if_pos hi]at hk ⊢;exact⟨σ',H',hs,hk⟩
     ·simp only[if_neg hi]at hk ⊢;exact⟨σ',H',hs,hk⟩
   | ret=>exact hp
   | goto l=>exact hp
   | panic c=>exact hp
   | outgrown=>exact hp
 | loop key b ih=>
   intro hqu code hc K σ H a w hst hv;rcases aN hc with⟨h,_⟩|⟨_,_,_,_,h,_⟩|⟨_,_,_,_,_,h⟩|⟨_,_,_,_,_,h,_⟩|⟨_,_,_,_,_,_,h,_⟩|⟨_,_,_,_,h,_⟩|⟨p,x',rfl,h,hx⟩|⟨_,_,h⟩|⟨_,h⟩ <;> try (simp[aY]at h;done)
   simp only[aY,CC.loop.injEq,true_and]at h;subst h;simp only[vc]at hv;obtain⟨inv,⟨x0,hP0,hm0⟩,hround⟩:=hv
   ·skip
    intro fr k cs;have key:∀ (n:Nat) (x:inv.X),inv.P x->inv.m x=n->∀a w,St E (inv.s x) (inv.h x) a w->
     ∃e a' w',PostZ E z K e a' w'/\Arrives P (lone (fr.at a (.code p:: .inLoop p::k)) cs w) fr k cs e a' w':=by
     intro n
     induction n using Nat.strongRecOn with
     | _ n ihn=>
       intro x hP hm a w hst;obtain⟨e,a1,w1,hq,harr⟩:=ih hqu p hx _ _ _ a w hst (hround x hP) fr (.inLoop p::k) cs;cases e with
       | normal=>
         obtain⟨σ',H',hs,y,hPy,hy1,hlt⟩:=hq;obtain⟨e2,a2,w2,hq2,harr2⟩:=ihn (inv.m y) (by omega) y hPy rfl a1 w1 (hy1 _ _ _ hs);exact⟨e2,a2,w2,hq2, .of_steps (Steps.trans harr (.one step_inLoop)) harr2⟩
       | exit id=>
         obtain⟨σ',H',hs,hk⟩:=hq;exact⟨.exit id,a1,w1,⟨σ',H',hs,hk⟩, .pass (x:= .inLoop p) rfl (λ_ _=> .inl (by simp)) harr⟩
       | ret=>
         obtain⟨σ',H',hs,hk⟩:=hq;exact⟨.ret,a1,w1,⟨σ',H',hs,hk⟩, .pass (x:= .inLoop p) rfl (λ_ _=> .inl (by simp)) harr⟩
       | goto l=>exact hq.elim
       | panic c=>exact⟨.panic c,a1,w1,hq, .pass (x:= .inLoop p) rfl (λ_ _=> .inl (by simp)) harr⟩
       | outgrown=>exact hq.elim
    obtain⟨e,a',w',hq,harr⟩:=key _ x0 hP0 rfl a w (hm0 _ _ _ hst);exact⟨e,a',w',hq, .of_steps (.one step_loop) harr⟩
 | exit id=>
   intro hqu code hc K σ H a w hst hv;rcases aN hc with⟨h,_⟩|⟨_,_,_,_,h,_⟩|⟨_,_,_,_,_,h⟩|⟨_,_,_,_,_,h,_⟩|⟨_,_,_,_,_,_,h,_⟩|⟨_,_,_,_,h,_⟩|⟨_,_,_,h,_⟩|⟨id',rfl,h⟩|⟨_,h⟩ <;> try (simp[aY]at h;done)
   simp only[aY,CC.exit.injEq]at h;subst h;exact wp_exit ⟨σ,H,hst,hv⟩
 | ret=>
   intro hqu code hc K σ H a w hst hv;rcases aN hc with⟨h,_⟩|⟨_,_,_,_,h,_⟩|⟨_,_,_,_,_,h⟩|⟨_,_,_,_,_,h,_⟩|⟨_,_,_,_,_,_,h,_⟩|⟨_,_,_,_,h,_⟩|⟨_,_,_,h,_⟩|⟨_,_,h⟩|⟨rfl,h⟩ <;> try (simp[aY]at h;done)
   exact wp_ret ⟨σ,H,hst,hv⟩
 | cut key c ih=>
   intro hqu code hc K σ H a w hst hv;simp only[vc]at hv;obtain⟨σ',H',hwk,hrest⟩:=hv;exact ih hqu code hc K _ _ a w (hwk _ _ _ hst) hrest
 | keep ls lh c ih=>
   intro hqu code hc K σ H a w hst hv;simp only[vc]at hv;refine ih hqu code hc K _ _ a w ?_ hv;obtain⟨hd,hN,tp,hw,hr⟩:=hst;have hm:=hw.sub (Ai (l:=lh));refine⟨hd,hN,tp,hm.1,λt=>hm.2 _ _ ?_⟩;unfold gC;exact Hi hr t
def qh(hS:∀f,Tri E.dq P f (S f).pt)(hmix:P.follows .mixedOrders=true)(cc:CC):∀ (code:Code),aw P im E.N code=some (aY cc)->∀ (K:Ex->Sg->aa->Prop) (σ:Sg) (H:aa) (a:Act) (w:World),
 St E σ H a w->vc S cc K σ H->code.wp P (Yx E K) a w:=λcode hc K σ H a w hst hv=>
 qkM (λ_ _ _ h=>h.no) (ER (z:=JN) hmix cc (jw hS cc) code hc K σ H a w hst hv)
end
end Go.Gv
