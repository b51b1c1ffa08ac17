/- T6 -/
import Derived.Test.YtnffegdacbdhmaaGreatDoorGd09
set_option linter.all false
namespace Go.Gv
variable {dq:Prop}
inductive Ex where
 |norm
 |ex (id:Nat)
 |ret
inductive CC where
 |skip
 |reg (l:List CI)
 |regd (pre tl:List CI)
 |seq (a b:CC)
 |ite (c:Operand) (a b:CC)
 |block (id:Nat) (b:CC)
 |loop (key:Nat) (b:CC)
 |exit (id:Nat)
 |ret
 |cut (key:Nat) (c:CC)
 |keep (ls lh:List Nat) (c:CC)
structure qnO where
 X:Type
 P:X->Prop
 s:X->Sg
 h:X->ab
 m:X->Nat
def Wk(σ:Sg)(H:ab)(σ':Sg)(H':ab):Prop:=∀(E:AD) (a:Act) (w:World),St E σ H a w->St E σ' H' a w
def XL(a b:D):Prop:=
 match b with
 | .any=>True
 | .own _ x=>a= .v x\/ ∃i,a= .own i x
 | .list n es=>a= .list n es\/(a= .v (.slice none 0 0)/\es=[])
 |b=>a=b
def isNilRow:Res->Prop
 | .row x _ _ es=>x= .slice none 0 0/\es=[]
 | _=>False
def ra:List (Nat×D)->Sg->Prop
 | [],_=>True
 |(t,d)::l,σ=>XL (σ t) d/\ra l σ
def vH:List (Nat×Res)->ab->Prop
 | [],_=>True
 |(i,r)::l,H=>(H i=some r\/isNilRow r)/\vH l H
def qsy:List (Nat×D)->Sg
 | []=>λ_=> .any
 |(t,d)::l=>upd (qsy l) t d
def ix(ls:List Nat)(σ:Sg):Sg:=qsy (ls.map λt=>(t,σ t))
def jm:List Nat->ab->ab
 | [],_=>λ_=>none
 |i::l,H=>ai (jm l H) i (H i)
def vc(S:Nat->Spc):CC->(Ex->Sg->ab->Prop)->Sg->ab->Prop
 | .skip,K,σ,H=>K .norm σ H
 | .reg l,K,σ,H=>DU S l σ H (K .norm)
 | .regd pre tl,K,σ,H=>kC S pre σ (bD pre H) H λσ H=>DU S tl σ H (K .norm)
 | .seq a b,K,σ,H=>vc S a (λe σ H=>match e with
   | .norm=>vc S b K σ H
   |e=>K e σ H) σ H
 | .ite c a b,K,σ,H=>match ev σ c with
   | .v (.bool t)=>(t=true->vc S a K σ H)/\(t=false->vc S b K σ H)
   | _=>False
 | .block id b,K,σ,H=>vc S b (λe σ H=>match e with
   | .ex i=>if i=id then K .norm σ H else K (.ex i) σ H
   |e=>K e σ H) σ H
 | .loop _ b,K,σ,H=>∃inv:qnO,(∃x,inv.P x/\Wk σ H (inv.s x) (inv.h x))/\∀x,inv.P x->vc S b (λe σ' H'=>match e with
    | .norm=>∃y,inv.P y/\Wk σ' H' (inv.s y) (inv.h y)/\inv.m y<inv.m x
    |e=>K e σ' H') (inv.s x) (inv.h x)
 | .exit id,K,σ,H=>K (.ex id) σ H
 | .ret,K,σ,H=>K .ret σ H
 | .keep ls lh c,K,σ,H=>vc S c K (ix ls σ) (jm lh H)
 | .cut _ c,K,σ,H=>∃(σ':Sg) (H':ab),Wk σ H σ' H'/\vc S c K σ' H'
def bG:CC->CC
 | .reg l=> .reg (l.filter CI.real)
 | .regd pre tl=> .regd pre (tl.filter CI.real)
 | .seq a b=> .seq (bG a) (bG b)
 | .ite c a b=> .ite c (bG a) (bG b)
 | .block id b=> .block id (bG b)
 | .loop _ b=> .loop 0 (bG b)
 | .cut _ c=>bG c
 | .keep _ _ c=>bG c
 |c=>c
def cg(ops:Array Oper):Nat:=
 ((List.range (ops.size+1)).find? λm=>(List.range ops.size).all λj=>decide (j<m)||(List.range j).all λi=>Y3 (qbh ops) j i).getD ops.size
def COp.noRead:COp->Bool
 | .mv _| .nilck _| .faddr _ _| .ext _ _| .arith _ _ _| .cmp _ _ _| .not _| .conv _ _=>true
 | _=>false
def CI.noRead:CI->Bool
 | .op _ _ c=>c.noRead
 | .frz _ _=>false
def Sl(ops:Array Oper)(cis:List CI)(m k:Nat):Bool:=
 decide (k<=m) && (List.range k).all λj=>((cis[j]?).map CI.noRead).getD false||(List.range m).all λi=>decide (i<k)||(((cis[i]?).map λx=>x.wid.isNone).getD true)||Y3 (qbh ops) i j
def CI.isSt:CI->Bool
 | .op _ _ (.store (some _) _ _ _)=>true
 | .op _ _ (.append (some r) _ _ _ _ _)=>decide (990<=r/\r< 1000)
 | _=>false
def CI.isLd:CI->Bool
 | .op _ _ (.load _ _ _)=>true
 | _=>false
def qqd(ops:Array Oper)(cis:List CI)(m:Nat):Option Nat:=do
 let f <- (List.range m).find? λi=>((cis[i]?).map CI.isSt).getD false
 let k <- ((List.range (f+1)).reverse).find? λk=>Sl ops cis m k
 if(List.range k).any λj=>((cis[j]?).map CI.isLd).getD false then some k else none
def qar(ops:Array Oper)(cis:List CI)(m:Nat):List CI:=
 match qqd ops cis m with
 |some k=>if Sl ops cis m k then cis.take k++ .frz 0 0::(cis.take m).drop k else cis.take m
 |none=>cis.take m
def aG(P:Program)(im:List Nat)(N:Nat):Code->Option CC
 | .skip=>some .skip
 | .label _=>some .skip
 | .region _ ops false=>(ld P im N ops).map .reg
 | .region _ ops true=>do
   let cis <-ld P im N ops
   if YT ops cis (cg ops)then some (.regd (qar ops cis (cg ops)) (cis.drop (cg ops)))else none
 | .seq a b=>do some (.seq (<-aG P im N a) (<-aG P im N b))
 | .cond c a b=>do if Ay c then some (.ite c (<-aG P im N a) (<-aG P im N b))else none
 | .block id b=>do some (.block id (<-aG P im N b))
 | .loop b=>do some (.loop 0 (<-aG P im N b))
 | .exit id=>some (.exit id)
 | .ret=>some .ret
 | _=>none
section
variable {P:Program}{im:List Nat}{E:AD}{S:Nat->Spc}
def qla{tp I:Nat->Prop}{w:World}{x:Value}{a b:D}(h:XL a b)(hr:R tp I w x a):R tp I w x b:=by
 unfold XL at h;split at h
 ·exact .any x
 ·rcases h with rfl|⟨i,rfl⟩
  ·cases hr with
   |v _ h1 _=>exact .own _ _ h1
  ·cases hr with
   |own _ _ h1=>exact .own _ _ h1
 ·rcases h with rfl|⟨rfl,rfl⟩
  ·exact hr
  ·cases hr;exact .nolist _ _ _
 ·subst h;exact hr
theorem StW.sub{tp:Nat->Prop}{H H':ab}{w:World}(h:StW E tp H w)(hs:∀i r,H' i=some r->H i=some r\/isNilRow r):
 StW E tp H' w/\∀x d,R tp (bh E.O tp H w) w x d->R tp (bh E.O tp H' w) w x d:=by
 have nilblk:∀r,isNilRow r->r.blk=none:=λr hr=>by
  cases r with
  |box b c=>exact hr.elim
  |iter b s p=>exact hr.elim
  |tbox b s p=>exact hr.elim
  |mrow x es=>exact hr.elim
  |miter b c l=>exact hr.elim
  |raw k=>exact hr.elim
  |row x el n es=>obtain⟨rfl,rfl⟩:=hr;rfl
 have hown:∀b,bL H' b->bL H b:=λb ⟨i,r,h1,h2⟩=>by
  rcases hs i r h1 with h3|h3
  ·exact⟨i,r,h3,h2⟩
  ·rw[nilblk r h3]at h2;cases h2
 have move:∀x d,R tp (bh E.O tp H w) w x d->R tp (bh E.O tp H' w) w x d:=λx d hr=>
  hr.mono (λ_ h=>h) (λb hb=>⟨⟨hb.1,hb.2.1,hb.2.2.1,λho=>hb.2.2.2 (hown b ho)⟩,rfl⟩) (λb _=> .refl _ _)
 refine⟨⟨h.hO,h.tpx,h.tpn,h.tpl,h.step,λb hb=>h.loc b (hown b hb),⟨λi j r s b h1 h2 h3 h4=>?_,λi r b h1 h2=>?_,λi r h1=>?_⟩⟩,move⟩
 ·rcases hs i r h1 with k1|k1
  ·rcases hs j s h2 with k2|k2
   ·exact h.sat.dis i j r s b k1 k2 h3 h4
   ·rw[nilblk s k2]at h4;cases h4
  ·rw[nilblk r k1]at h3;cases h3
 ·rcases hs i r h1 with k1|k1
  ·exact h.sat.out i r b k1 h2
  ·rw[nilblk r k1]at h2;cases h2
 ·rcases hs i r h1 with k1|k1
  ·exact(h.sat.ok i r k1).conv move (λ_ _=>rfl)
  ·cases r with
   |box b c=>exact k1.elim
   |iter b s p=>exact k1.elim
   |tbox b s p=>exact k1.elim
   |mrow x es=>exact k1.elim
   |miter b c l=>exact k1.elim
   |raw k=>exact k1.elim
   | row x el n es=>
     obtain⟨rfl,rfl⟩:=k1;exact⟨[],qBw _ _ _ _,by simp,λk y c h=>by simp at h⟩
def Iq{H:ab} :∀{l:List Nat},∀i r,jm l H i=some r->H i=some r\/isNilRow r
 | [],i,r,h=>by simp[jm]at h
 | j::l,i,r,h=>by
   simp only[jm,ai]at h;split at h
   ·rename_i e;subst e;exact .inl h
   ·exact Iq i r h
def Sv{tp I:Nat->Prop}{w:World}{a:Act}{σ:Sg}(hr:∀t,R tp I w (a.tmps.getD t undef) (σ t)):∀{l:List Nat},∀t,R tp I w (a.tmps.getD t undef) (qsy (l.map λt=>(t,σ t)) t)
 | [],t=> .any _
 | s::l,t=>by
   simp only[qAo,qsy,upd];split
   ·rename_i e;subst e;exact hr t
   ·exact Sv hr t
def qnK(E:AD)(K:Ex->Sg->ab->Prop):Exit->Act->World->Prop
 | .normal,a,w=>∃σ H,St E σ H a w/\K .norm σ H
 | .exit i,a,w=>∃σ H,St E σ H a w/\K (.ex i) σ H
 | .ret,a,w=>∃σ H,St E σ H a w/\K .ret σ H
 | _,_,_=>False
def PostZ(E:AD)(z:List PanicEntry->Prop)(K:Ex->Sg->ab->Prop):Exit->Act->World->Prop
 | .normal,a,w=>∃σ H,St E σ H a w/\K .norm σ H
 | .exit i,a,w=>∃σ H,St E σ H a w/\K (.ex i) σ H
 | .ret,a,w=>∃σ H,St E σ H a w/\K .ret σ H
 | .panic c,a,w=>a.defers=E.ds/\ZE E z c w
 | _,_,_=>False
def PostZ.no{E:AD}{K:Ex->Sg->ab->Prop}{e:Exit}{a:Act}{w:World}(h:PostZ E VM K e a w):qnK E K e a w:=by
 cases e<;>first|exact h|exact h.2.1.elim
def QuietL(dq:Prop)(P:Program)(S:Nat->Spc):List CI->Prop
 | []=>True
 |x::l=>((∀y∈l,mX x y=false)\/dG dq P VM S x)/\QuietL dq P S l
def QuietL.get{P:Program}{S:Nat->Spc}{l:List CI} :QuietL dq P S l->∀(j i:Nat) (x y:CI),j<i->l[j]? =some x->l[i]? =some y->mX x y=true->dG dq P VM S x:=by
 induction l with
 |nil=>intro _ j i x y _ h;simp at h
 | cons z l ih=>
   intro hq j i x y hij hx hy ha;obtain⟨h1,h2⟩:=hq;rcases i with _|i
   ·omega
   rw[qBi]at hy;rcases j with _|j
   ·rw[qCg]at hx;have hx:=qAg hx;subst hx;rcases h1 with h|h
    ·have:=h y (qzY hy);rw[this]at ha;exact absurd ha (by simp)
    ·exact h
   ·rw[qBi]at hx;exact ih h2 j i x y (by omega) hx hy ha
def Mn{P:Program}{S:Nat->Spc} :∀{l:List CI},(∀x∈l,dG dq P VM S x)->QuietL dq P S l
 | [],_=>trivial
 |x::l,h=>⟨.inr (h x (by simp)),Mn λy hy=>h y (by simp[hy])⟩
def Ku(dq:Prop)(P:Program)(z:List PanicEntry->Prop)(S:Nat->Spc):CC->Prop
 | .reg l=>∀x∈l,dG dq P z S x
 | .regd pre tl=>(∀x∈pre,dG dq P z S x)/\(∀x∈tl,dG dq P z S x)/\QuietL dq P S (pre.filter CI.real)
 | .seq a b=>Ku dq P z S a/\Ku dq P z S b
 | .ite _ a b=>Ku dq P z S a/\Ku dq P z S b
 | .block _ b=>Ku dq P z S b
 | .loop _ b=>Ku dq P z S b
 | .cut _ b=>Ku dq P z S b
 | .keep _ _ b=>Ku dq P z S b
 | _=>True
def Sm{P:Program}{S:Nat->Spc}(h:∀f,Tri dq P f (S f).pt):∀x,dG dq P VM S x
 | .op _ _ c=>qc5 h c
 | .frz _ _=>trivial
def oJ{P:Program}{S:Nat->Spc}(h:∀f,Tri dq P f (S f).pt):∀cc,Ku dq P VM S cc
 | .reg l=>λx _=>Sm h x
 | .regd pre tl=>⟨λx _=>Sm h x,λx _=>Sm h x,Mn λx _=>Sm h x⟩
 | .seq a b=>⟨oJ h a,oJ h b⟩
 | .ite _ a b=>⟨oJ h a,oJ h b⟩
 | .block _ b=>oJ h b
 | .loop _ b=>oJ h b
 | .cut _ b=>oJ h b
 | .keep _ _ b=>oJ h b
 | .skip=>trivial
 | .exit _=>trivial
 | .ret=>trivial
def vQ(x:CI)(Hr:ab):ab:=if x.noRead thenλ_=>none else Hr
def qw:List CI->ab->List (CI×ab)
 | [],_=>[]
 | .frz _ _::r,Hr=>qw r (bD r Hr)
 | .op d g c::r,Hr=>(.op d g c,vQ (.op d g c) Hr)::qw r Hr
def RW{c:COp}{dst:Option Nat}{σ:Sg}{Hr Hr' H:ab}{K:D->ab->Prop}(h:c.noRead=true):ax S c dst σ Hr H K↔ax S c dst σ Hr' H K:=by
 cases c<;>first|(simp[COp.noRead]at h;done)|exact qAY
def qe3{d:Option Nat}{g:Option (Nat×Bool)}{c:COp}{dst:Option Nat}{σ:Sg}{Hr H:ab}{K:D->ab->Prop} :ax S c dst σ (vQ (.op d g c) Hr) H K↔ax S c dst σ Hr H K:=by
 unfold vQ;split
 ·rename_i h;exact RW h
 ·exact qAY
theorem Fu{K:Sg->ab->Prop} :∀(l:List CI) (σ:Sg) (Hr H:ab),kC S l σ Hr H K->qhR S (qw l Hr) σ H K
 | [],σ,Hr,H,h=>h
 | .frz _ _::l,σ,Hr,H,h=>Fu l σ (bD l Hr) H h
 | .op dst g c::r,σ,Hr,H,h=>by
   simp only[kC]at h;simp only[qw,qhR,OL,CI.dst];have mono:∀σ':Sg,ax S c dst σ' Hr H (λd H'=>kC S r (fq σ' dst d) Hr H' K)->ax S c dst σ' (vQ (.op dst g c) Hr) H (λd H'=>qhR S (qw r Hr) (fq σ' dst d) H' K):=λσ' hp=>by
    obtain⟨pre,out,hf⟩:=MY S c dst σ' Hr (uB H (c.wid dst));have hf:∀H',uB H' (c.wid dst)=uB H (c.wid dst)->∀K,ax S c dst σ' Hr H' K↔ (pre/\∀d u,out d u->K d (jV H' (c.wid dst) u)):=hf;obtain⟨h1,h2⟩:=(hf H rfl _).1 hp;exact qe3.2 ((hf H rfl _).2 ⟨h1,λd u ho=>Fu r _ Hr _ (h2 d u ho)⟩)
   cases g with
   |none=>exact mono σ h
   | some sb=>
     obtain⟨s,b⟩:=sb;simp only[mV]at h;split at h
     ·rename_i t e1;simp only;rw[e1];refine⟨λe=>?_,λe=>?_⟩
      ·have:=h.1 e;rw[<-e,Fw e1]at this;exact mono σ this
      ·have:=h.2 e;rw[<-e,Fw e1]at this;exact Fu r _ Hr H this
     ·rename_i e1;simp only;rw[e1];exact Fu r _ Hr H h
     ·exact h.elim
def zu(Hr:ab):∀(l:List CI),(∀x∈l,x.real=true)->∀(r:List CI),qw (l++r) Hr=(l.map λx=>(x,vQ x Hr)) ++qw r Hr
 | [],_,r=>rfl
 | .frz _ _::l,h,r=>by simp[CI.real]at h
 | .op _ _ _::l,h,r=>by
   simp only[qAK,qw,qAo];rw[zu Hr l (λx hx=>h x (by simp[hx])) r]
def EB{t:Nat}{H:ab} :∀{l:List CI},(∀x∈l,x.real=true)->∀x∈l,Dt x.wid t->bD l H t=none
 | .frz _ _::l,h,x,hx,hw=>by simp[CI.real]at h
 | .op _ _ _::l,h,x,hx,hw=>by
   simp only[bD];rcases qAc.1 hx with rfl|hx
   ·rw[if_pos hw]
   ·split
    ·rfl
    ·exact EB (λx hx=>h x (by simp[hx])) x hx hw
def BI{H:ab} :∀(l:List CI),Tx (bD l H) H
 | []=>λ_ _ h=>h
 | .frz _ _::l=>λ_ _ h=>h
 | .op _ _ _::l=>λi r h=>by
   simp only[bD]at h;split at h
   ·cases h
   ·exact BI l i r h
def P6{H:ab} :∀(l:List CI) (a b:Nat) (r:List CI),(∀x∈l,x.real=true)->bD (l++ .frz a b::r) H=bD l H
 | [],_,_,_,_=>rfl
 | .frz _ _::l,_,_,_,h=>by simp[CI.real]at h
 | .op _ _ _::l,a,b,r,h=>by
   simp only[qAK,bD];rw[P6 l a b r (λx hx=>h x (by simp[hx]))]
theorem VG{ops:Array Oper}{cis:List CI}{m:Nat}(h:YT ops cis m=true):
 (∀i o,ops[i]? =some o->∀j∈IN o,j<i)/\m<=ops.size/\(∀j,m<=j->j<ops.size->∀i,i<j->Y3 (qbh ops) j i=true)/\
 (∀j,j<m->∀i,i<j->Y3 (qbh ops) j i=true\/ ∃x y,cis[i]? =some x/\cis[j]? =some y/\mX x y=true):=by
 unfold YT at h;simp only[qzZ,qz4,qBd,Bool.or_eq_true,decide_eq_true_eq]at h;obtain⟨⟨⟨h0,h2⟩,h1⟩,hm⟩:=h;refine⟨λi o ho j hj=>?_,hm,λj hmj hj i hi=>?_,λj hj i hi=>?_⟩
 ·have hi:i<ops.size:=(qz3.1 ho).1;have:=h0 i hi;rw[ho]at this;simp only[qBh,qAE,qz4,decide_eq_true_eq]at this;exact this j hj
 ·rcases h2 j hj with h|h
  ·omega
  ·exact h i hi
 ·rcases h1 j hj i hi with h|h
  ·exact .inl h
  ·split at h
   ·rename_i x y e1 e2;exact .inr ⟨x,y,e1,e2,h⟩
   ·cases h
def P7{α β:Type}{f:α->Option β} :∀{l:List α} {r:List β} (m:Nat),l.mapM f=some r->(l.drop m).mapM f=some (r.drop m)
 |l,r,0,h=>by simpa using h
 | [],r,m+1,h=>by simp at h;subst h;simp
 | a::l,r,m+1,h=>by
   rw[qAC]at h;simp only[qzW,qzU]at h;obtain⟨x,hx,y,hy,h⟩:=h;cases h;simpa using P7 m hy
theorem WI{ops:Array Oper}{id:Nat}{pre tl:List CI}{K:Ex->Sg->ab->Prop}{z:List PanicEntry->Prop}(hSp:∀x∈pre,dG E.dq P z S x)(hSt:∀x∈tl,dG E.dq P z S x)(hqu:QuietL E.dq P S (pre.filter CI.real))(hc:aG P im E.N (.region id ops true)=some (.regd pre (tl.filter CI.real)))
 {σ:Sg} {H:ab} {a:Act} {w:World} (hst:St E σ H a w) (hv:kC S pre σ (bD pre H) H λσ H=>DU S tl σ H (K .norm)):wpAny P .any ops (PostZ E z K) ops.size (Array.replicate ops.size false) a w.drew:=by
 simp only[aG,qzW,qzU]at hc;obtain⟨cis,hcis,hc⟩:=hc;split at hc
 ·rename_i hok;simp only[qAa,CC.regd.injEq]at hc;obtain⟨hpre,htl⟩:=hc;obtain⟨hC0,hm,hC2,hC1⟩:=VG hok;obtain⟨hclen,hcget⟩:=vd hcis;have hst':St E σ H a w.drew:=by
   obtain⟨hd,hN,tp,hw,hr⟩:=hst;have hmv:=hw.grow (SC w none);exact⟨hd,hN,tp,hmv.1,λt=>hmv.2 _ _ (hr t)⟩
  have hreal:∀x∈cis,x.real=true:=λx hx=>by
   obtain⟨i,hi⟩:=qAp.1 hx;have hil:i<ops.size:=by rw[<-hclen];exact(qzV.1 hi).1
   obtain⟨y,h1,h2⟩:=hcget i ops[i] (by simp[hil]);rw[hi]at h1;cases h1;obtain⟨g,c,rfl,_⟩:=ig h2;rfl
  have hfil:pre.filter CI.real=cis.take (cg ops):=by
   have hall:∀l:List CI,(∀x∈l,x.real=true)->l.filter CI.real=l:=λl h=>qBE.2 h
   rw[<-hpre];unfold qar;split
   ·split
    ·rename_i k _ hok2;unfold Sl at hok2;simp only[qzZ,decide_eq_true_eq]at hok2;rw[qBp,hall _ λx hx=>hreal x (qAl hx),qBc];simp only[CI.real,qAJ,if_false];rw[hall _ λx hx=>hreal x (qAl (qAP hx))]
     conv=>rhs;rw[<-qAz k (cis.take (cg ops)),qCk,Nat.min_eq_left hok2.1]
    ·exact hall _ λx hx=>hreal x (qAl hx)
   ·exact hall _ λx hx=>hreal x (qAl hx)
  rw[hfil]at hqu;have hSj:∀j x,j<cg ops->cis[j]? =some x->dG E.dq P z S x:=λj x hj hx=>by
   refine hSp x ?_;have hx':x∈pre.filter CI.real:=by
    rw[hfil,qAp];exact⟨j,by rw[qAf,if_pos hj];exact hx⟩
   exact(qAV.1 hx').1
  have hquiet:∀j i x y,j<i->i<cg ops->cis[j]? =some x->cis[i]? =some y->mX x y=true->dG E.dq P VM S x:=λj i x y hij hi hx hy ha=>
   hqu.get j i x y hij (by rw[qAf,if_pos (by omega)];exact hx) (by rw[qAf,if_pos hi];exact hy) ha
  obtain⟨k,hkm,hkok,hpre2⟩:∃k,k<=cg ops/\(∀i j x t,k<=i->i<cg ops->j<k->cis[i]? =some x->Dt x.wid t->(∃y,cis[j]? =some y/\y.noRead=true)\/Y3 (qbh ops) i j=true)/\
   qw pre (bD pre H)=((cis.take k).map λx=>(x,vQ x (bD (cis.take k) H))) ++ (((cis.take (cg ops)).drop k).map λx=>(x,vQ x (bD ((cis.take (cg ops)).drop k) (bD (cis.take k) H)))):=by
   have hr1:∀n,∀x∈cis.take n,x.real=true:=λn x hx=>hreal x (qAl hx)
   have hr2:∀n k,∀x∈ (cis.take n).drop k,x.real=true:=λn k x hx=>hr1 n x (qAP hx)
   have plain:pre=cis.take (cg ops)->∃k,k<=cg ops/\(∀i j x t,k<=i->i<cg ops->j<k->cis[i]? =some x->Dt x.wid t->(∃y,cis[j]? =some y/\y.noRead=true)\/Y3 (qbh ops) i j=true)/\
    qw pre (bD pre H)=((cis.take k).map λx=>(x,vQ x (bD (cis.take k) H))) ++ (((cis.take (cg ops)).drop k).map λx=>(x,vQ x (bD ((cis.take (cg ops)).drop k) (bD (cis.take k) H)))):=λe=>by
    refine⟨cg ops,qz2 _,λi j x t h1 h2=>by omega,?_⟩;have:(cis.take (cg ops)).drop (cg ops)=[]:=by simp
    rw[e,this];have:=zu (bD (cis.take (cg ops)) H) (cis.take (cg ops)) (hr1 _) [];simpa [qw]using this
   have hpre':=hpre.symm;unfold qar at hpre';split at hpre'
   ·rename_i k _;split at hpre'
    ·rename_i hok2;unfold Sl at hok2;simp only[qzZ,decide_eq_true_eq,qz4,qBd,Bool.or_eq_true]at hok2;refine⟨k,hok2.1,λi j x t h1 h2 h3 h4 h5=>?_,?_⟩
     ·rcases hok2.2 j h3 with h|h
      ·left;cases hj:cis[j]? with
       |none=>rw[hj]at h;simp at h
       |some y=>rw[hj]at h;exact⟨y,rfl,by simpa using h⟩
      ·right;rcases h i h2 with(h|h)|h
       ·omega
       ·rw[h4]at h;exfalso;revert h;cases hw:x.wid with
        |none=>rw[hw]at h5;exact h5.elim
        |some q=>simp[hw]
       ·exact h
     ·rw[hpre',P6 _ _ _ _ (hr1 _),zu _ _ (hr1 _)];simp only[qw];congr 1;have:=zu (bD ((cis.take (cg ops)).drop k) (bD (cis.take k) H)) ((cis.take (cg ops)).drop k) (hr2 _ _) [];simpa [qw]using this
    ·exact plain hpre'
   ·exact plain hpre'
  have hHr:∀j,∃Hr,Hr=vQ ((cis[j]?).getD (.frz 0 0)) (if j<k then bD (cis.take k) H else bD ((cis.take (cg ops)).drop k) (bD (cis.take k) H)):=λj=>⟨_,rfl⟩
  have hr1:∀n,∀x∈cis.take n,x.real=true:=λn x hx=>hreal x (qAl hx)
  have hr2:∀n k,∀x∈ (cis.take n).drop k,x.real=true:=λn k x hx=>hr1 n x (qAP hx)
  have mem1:∀i x,i<k->cis[i]? =some x->x∈cis.take k:=λi x hi hx=>qAp.2 ⟨i,by rw[qAf,if_pos hi];exact hx⟩
  have mem2:∀i x,k<=i->i<cg ops->cis[i]? =some x->x∈ (cis.take (cg ops)).drop k:=λi x h1 h2 hx=>qAp.2 ⟨i -k,by rw[qAF,qAf,if_pos (by omega),show k+ (i -k)=i by omega];exact hx⟩
  have none1:∀i x t,i<k->cis[i]? =some x->Dt x.wid t->bD (cis.take k) H t=none:=λi x t hi hx ht=>EB (hr1 _) x (mem1 i x hi hx) ht
  have none2:∀i x t,i<cg ops->cis[i]? =some x->Dt x.wid t->bD ((cis.take (cg ops)).drop k) (bD (cis.take k) H) t=none:=λi x t hi hx ht=>by
   by_cases hik:i<k
   ·cases he:bD ((cis.take (cg ops)).drop k) (bD (cis.take k) H) t with
    |none=>rfl
    | some r=>
      have:=BI _ _ _ he;rw[none1 i x t hik hx ht]at this;cases this
   ·exact EB (hr2 _ _) x (mem2 i x (by omega) hi hx) ht
  have hrOf_none:∀x (Hr:ab) t,Hr t=none->vQ x Hr t=none:=λx Hr t h=>by
   unfold vQ;split
   ·rfl
   ·exact h
  have hrOf_le:∀x (Hr:ab),Tx Hr H->Tx (vQ x Hr) H:=λx Hr h=>by
   unfold vQ;split
   ·intro i r hi;cases hi
   ·exact h
  have hmain:=qi1 (im:=im) (cis:=cis) (tl:=tl) (Hr:=λj=>vQ ((cis[j]?).getD (.frz 0 0)) (if j<k then bD (cis.take k) H else bD ((cis.take (cg ops)).drop k) (bD (cis.take k) H))) (Q:=PostZ E z K) (λc a w' h1 h2=>⟨h1,h2⟩) (λσ H a w hs hk=>⟨σ,H,hs,hk⟩) hcis hC0 hSj hquiet hm hC2 hC1 (by
   rw[<-htl];exact P7 _ hcis) hSt (λi j x t hi hj hij hx ht=>by
   by_cases hjk:j<k
   ·simp only[if_pos hjk];by_cases hik:i<k
    ·exact .inl (hrOf_none _ _ _ (none1 i x t hik hx ht))
    ·rcases hkok i j x t (by omega) hi hjk hx ht with⟨y,hy,hn⟩|h
     ·left;simp only[hy,qAE,vQ];rw[if_pos hn]
     ·exact .inr h
   ·simp only[if_neg hjk];exact .inl (hrOf_none _ _ _ (none2 i x t hi hx ht))) (λi j x t hi hj hij hx ht=>by
   by_cases hjk:j<k
   ·simp only[if_pos hjk];exact hrOf_none _ _ _ (none1 i x t (by omega) hx ht)
   ·simp only[if_neg hjk];exact hrOf_none _ _ _ (none2 i x t hi hx ht)) (cg ops) (List.range (cg ops)) (Array.replicate ops.size false) (by simp) (by
   simp only[qA1];intro i j hi hj hij;simpa using hij) (λi hi=>by simpa using hi) (by simp) (λi hi=>by
    constructor
    ·intro h;simp[yt,hi]at h
    ·rintro⟨h1,h2⟩;exact absurd (qBd.2 h1) h2) (λi o ho hd=>by
    exfalso;simp[yt]at hd;have hi:i<ops.size:=(qz3.1 ho).1;simp[hi]at hd) σ H a w.drew hst' (λi _=>by
    refine hrOf_le _ _ ?_;split
    ·exact BI _
    ·exactλi r hi=>BI _ _ _ (BI _ _ _ hi)) (by
    have hv2:=Fu _ _ _ _ hv;rw[hpre2]at hv2;have hlist:((List.range (cg ops)).map λi=>((cis[i]?).getD (.frz 0 0),vQ ((cis[i]?).getD (.frz 0 0)) (if i<k then bD (cis.take k) H else bD ((cis.take (cg ops)).drop k) (bD (cis.take k) H))))=
     ((cis.take k).map λx=>(x,vQ x (bD (cis.take k) H))) ++ (((cis.take (cg ops)).drop k).map λx=>(x,vQ x (bD ((cis.take (cg ops)).drop k) (bD (cis.take k) H)))):=by
     have hcl:cg ops<=cis.length:=by omega
     have hgeti:∀i,i<cg ops->∃x,cis[i]? =some x:=λi hi=>⟨_,qzX (by omega)⟩
     apply qAO;intro i;have hl1:((cis.take k).map λx=>(x,vQ x (bD (cis.take k) H))).length=k:=by simp;omega
     by_cases him:i<cg ops
     ·obtain⟨x,hx⟩:=hgeti i him;rw[qz7,qBD him];simp only[qBh,hx,qAE];by_cases hik:i<k
      ·rw[qAe (by omega),qz7,qAf,if_pos hik,hx];simp[hik]
      ·rw[qz9 (by omega),hl1,qz7,qAF,qAf,if_pos (show k+ (i -k)<cg ops by omega),show k+ (i -k)=i by omega,hx];simp[hik]
     ·have e1:((cis.take k).map λx=>(x,vQ x (bD (cis.take k) H))).length+ (((cis.take (cg ops)).drop k).map λx=>(x,vQ x (bD ((cis.take (cg ops)).drop k) (bD (cis.take k) H)))).length=cg ops:=by
       rw[hl1,qAs,qA8,qAq];omega
      rw[qAt (by simp;omega),qAt];rw[qAm,e1];omega
    rw[hlist];exact hv2)
  have hsz:(List.range (cg ops)).length+ (ops.size -cg ops)=ops.size:=by simp;omega
  rw[hsz]at hmain;exact hmain
 ·cases hc
def Zp{ops:Array Oper}{id:Nat}{pre tl:List CI}{K:Ex->Sg->ab->Prop}{z:List PanicEntry->Prop}(hSp:∀x∈pre,dG E.dq P z S x)(hSt:∀x∈tl,dG E.dq P z S x)(hqu:QuietL E.dq P S (pre.filter CI.real))(hmix:P.follows .mixedOrders=true)(hc:aG P im E.N (.region id ops true)=some (.regd pre (tl.filter CI.real)))
 {σ:Sg} {H:ab} {a:Act} {w:World} (hst:St E σ H a w) (hv:kC S pre σ (bD pre H) H λσ H=>DU S tl σ H (K .norm)):(Code.region id ops true).wp P (PostZ E z K) a w:=
 wp_region_any hmix (WI hSp hSt hqu hc hst hv)
theorem bq{N:Nat}{code:Code}{c:CC}(h:aG P im N code=some c):
 (c= .skip/\(code= .skip\/ ∃l,code= .label l))\/(∃id ops l,code= .region id ops false/\c= .reg l/\ld P im N ops=some l)\/(∃id ops pre tl,code= .region id ops true/\c= .regd pre tl)\/
 (∃a b x y,code= .seq a b/\c= .seq x y/\aG P im N a=some x/\aG P im N b=some y)\/
 (∃q a b x y,code= .cond q a b/\c= .ite q x y/\Ay q=true/\aG P im N a=some x/\aG P im N b=some y)\/
 (∃id a x,code= .block id a/\c= .block id x/\aG P im N a=some x)\/(∃a x,code= .loop a/\c= .loop 0 x/\aG P im N a=some x)\/
 (∃id,code= .exit id/\c= .exit id)\/(code= .ret/\c= .ret):=by
 cases code with
 |skip=>simp only[aG]at h;cases h;exact .inl ⟨rfl, .inl rfl⟩
 |label l=>simp only[aG]at h;cases h;exact .inl ⟨rfl, .inr ⟨l,rfl⟩⟩
 | region id ops d=>
   cases d
   ·simp only[aG]at h;obtain⟨l,hl,rfl⟩:=aN h;exact .inr (.inl ⟨id,ops,l,rfl,rfl,hl⟩)
   ·simp only[aG,qzW,qzU]at h;obtain⟨cis,_,h⟩:=h;split at h
    ·cases h;exact .inr (.inr (.inl ⟨id,ops,_,_,rfl,rfl⟩))
    ·cases h
 | seq a b=>
   simp only[aG,qzW,qzU]at h;obtain⟨x,hx,y,hy,h⟩:=h;cases h;exact .inr (.inr (.inr (.inl ⟨a,b,x,y,rfl,rfl,hx,hy⟩)))
 | cond q a b=>
   simp only[aG,qzW]at h;split at h
   ·rename_i hq;simp only[qzU]at h;obtain⟨x,hx,y,hy,h⟩:=h;cases h;exact .inr (.inr (.inr (.inr (.inl ⟨q,a,b,x,y,rfl,rfl,hq,hx,hy⟩))))
   ·cases h
 | block id b=>
   simp only[aG,qzW,qzU]at h;obtain⟨x,hx,h⟩:=h;cases h;exact .inr (.inr (.inr (.inr (.inr (.inl ⟨id,b,x,rfl,rfl,hx⟩)))))
 | loop b=>
   simp only[aG,qzW,qzU]at h;obtain⟨x,hx,h⟩:=h;cases h;exact .inr (.inr (.inr (.inr (.inr (.inr (.inl ⟨b,x,rfl,rfl,hx⟩))))))
 |exit id=>simp only[aG]at h;cases h;exact .inr (.inr (.inr (.inr (.inr (.inr (.inr (.inl ⟨id,rfl,rfl⟩)))))))
 |ret=>simp only[aG]at h;cases h;exact .inr (.inr (.inr (.inr (.inr (.inr (.inr (.inr ⟨rfl,rfl⟩)))))))
 | _=>simp[aG]at h
def YJ{ops:Array Oper}{id:Nat}{l:List CI}{K:Ex->Sg->ab->Prop}{z:List PanicEntry->Prop}(hS:∀x∈l,dG E.dq P z S x)(hc:ld P im E.N ops=some (l.filter CI.real))
 {σ:Sg} {H:ab} {a:Act} {w:World} (hst:St E σ H a w) (hv:DU S l σ H (K .norm)):(Code.region id ops false).wp P (PostZ E z K) a w:=
 wp_region_list (Pw (im:=im) (Q:=PostZ E z K) (K:=K .norm) (λc a w' h1 h2=>⟨h1,h2⟩) (λσ H a w hs hk=>⟨σ,H,hs,hk⟩) l hS ops.toList hc σ H a w hst hv)
theorem Po{z:List PanicEntry->Prop}(hmix:P.follows .mixedOrders=true)(cc:CC):Ku E.dq P z S cc->∀(code:Code),aG P im E.N code=some (bG cc)->∀(K:Ex->Sg->ab->Prop) (σ:Sg) (H:ab) (a:Act) (w:World),
 St E σ H a w->vc S cc K σ H->code.wp P (PostZ E z K) a w:=by
 induction cc with
 | skip=>
   intro hqu code hc K σ H a w hst hv;rcases bq hc with⟨_,h⟩|⟨_,_,_,_,h,_⟩|⟨_,_,_,_,_,h⟩|⟨_,_,_,_,_,h,_⟩|⟨_,_,_,_,_,_,h,_⟩|⟨_,_,_,_,h,_⟩|⟨_,_,_,h,_⟩|⟨_,_,h⟩|⟨_,h⟩ <;>try (simp[bG]at h;done)
   rcases h with rfl|⟨l,rfl⟩
   ·exact wp_skip ⟨σ,H,hst,hv⟩
   ·exact wp_label ⟨σ,H,hst,hv⟩
 | reg l=>
   intro hqu code hc K σ H a w hst hv;rcases bq hc with⟨h,_⟩|⟨id,ops,l',rfl,h,hl⟩|⟨_,_,_,_,_,h⟩|⟨_,_,_,_,_,h,_⟩|⟨_,_,_,_,_,_,h,_⟩|⟨_,_,_,_,h,_⟩|⟨_,_,_,h,_⟩|⟨_,_,h⟩|⟨_,h⟩ <;>try (simp[bG]at h;done)
   simp only[bG,CC.reg.injEq]at h;subst h;exact YJ hqu hl hst hv
 | regd pre tl=>
   intro hqu code hc K σ H a w hst hv;rcases bq hc with⟨h,_⟩|⟨_,_,_,_,h,_⟩|⟨id,ops,pre',tl',rfl,h⟩|⟨_,_,_,_,_,h,_⟩|⟨_,_,_,_,_,_,h,_⟩|⟨_,_,_,_,h,_⟩|⟨_,_,_,h,_⟩|⟨_,_,h⟩|⟨_,h⟩ <;>try (simp[bG]at h;done)
   exact Zp hqu.1 hqu.2.1 hqu.2.2 hmix hc hst hv
 | seq x y ihx ihy=>
   intro hqu code hc K σ H a w hst hv;rcases bq hc with⟨h,_⟩|⟨_,_,_,_,h,_⟩|⟨_,_,_,_,_,h⟩|⟨p,q,x',y',rfl,h,hx,hy⟩|⟨_,_,_,_,_,_,h,_⟩|⟨_,_,_,_,h,_⟩|⟨_,_,_,h,_⟩|⟨_,_,h⟩|⟨_,h⟩ <;>try (simp[bG]at h;done)
   simp only[bG,CC.seq.injEq]at h;obtain⟨rfl,rfl⟩:=h;refine wp_seq (qBr ?_ (ihx hqu.1 p hx _ σ H a w hst hv));intro e a' w' hp;cases e with
   | normal=>
     obtain⟨σ',H',hs,hk⟩:=hp;exact ihy hqu.2 q hy K σ' H' a' w' hs hk
   |exit id=>exact hp
   |ret=>exact hp
   |goto l=>exact hp
   |panic c=>exact hp
   |outgrown=>exact hp
 | ite q x y ihx ihy=>
   intro hqu code hc K σ H a w hst hv;rcases bq hc with⟨h,_⟩|⟨_,_,_,_,h,_⟩|⟨_,_,_,_,_,h⟩|⟨_,_,_,_,_,h,_⟩|⟨q',p1,p2,x',y',rfl,h,hq,hx,hy⟩|⟨_,_,_,_,h,_⟩|⟨_,_,_,h,_⟩|⟨_,_,h⟩|⟨_,h⟩ <;>try (simp[bG]at h;done)
   simp only[bG,CC.ite.injEq]at h;obtain⟨rfl,rfl,rfl⟩:=h;simp only[vc]at hv;have hst0:=hst;obtain⟨hd,hN,tp,hw,hr⟩:=hst;have hqr:=Zi hr q hq;split at hv
   ·rename_i t e1;rw[e1]at hqr;refine wp_cond_split hqr.inv_v (λh=>?_) (λh=>?_)
    ·exact ihx hqu.1 p1 hx K σ H a w hst0 (hv.1 h)
    ·exact ihy hqu.2 p2 hy K σ H a w hst0 (hv.2 h)
   ·exact hv.elim
 | block id b ih=>
   intro hqu code hc K σ H a w hst hv;rcases bq hc with⟨h,_⟩|⟨_,_,_,_,h,_⟩|⟨_,_,_,_,_,h⟩|⟨_,_,_,_,_,h,_⟩|⟨_,_,_,_,_,_,h,_⟩|⟨id',p,x',rfl,h,hx⟩|⟨_,_,_,h,_⟩|⟨_,_,h⟩|⟨_,h⟩ <;>try (simp[bG]at h;done)
   simp only[bG,CC.block.injEq]at h;obtain⟨rfl,rfl⟩:=h;refine wp_block (qBr ?_ (ih hqu p hx _ σ H a w hst hv));intro e a' w' hp;cases e with
   |normal=>exact hp
   | exit i=>
     obtain⟨σ',H',hs,hk⟩:=hp;simp only[Exit.inBlock];by_cases hi:i=id
     ·simp only[if_pos hi]at hk ⊢;exact⟨σ',H',hs,hk⟩
     ·simp only[if_neg hi]at hk ⊢;exact⟨σ',H',hs,hk⟩
   |ret=>exact hp
   |goto l=>exact hp
   |panic c=>exact hp
   |outgrown=>exact hp
 | loop key b ih=>
   intro hqu code hc K σ H a w hst hv;rcases bq hc with⟨h,_⟩|⟨_,_,_,_,h,_⟩|⟨_,_,_,_,_,h⟩|⟨_,_,_,_,_,h,_⟩|⟨_,_,_,_,_,_,h,_⟩|⟨_,_,_,_,h,_⟩|⟨p,x',rfl,h,hx⟩|⟨_,_,h⟩|⟨_,h⟩ <;>try (simp[bG]at h;done)
   simp only[bG,CC.loop.injEq,true_and]at h;subst h;simp only[vc]at hv;obtain⟨inv,⟨x0,hP0,hm0⟩,hround⟩:=hv
   ·skip
    intro fr k cs;have key:∀(n:Nat) (x:inv.X),inv.P x->inv.m x=n->∀a w,St E (inv.s x) (inv.h x) a w->
     ∃e a' w',PostZ E z K e a' w'/\Arrives P (lone (fr.at a (.code p:: .inLoop p::k)) cs w) fr k cs e a' w':=by
     intro n
     induction n using Nat.strongRecOn with
     | _ n ihn=>
       intro x hP hm a w hst;obtain⟨e,a1,w1,hq,harr⟩:=ih hqu p hx _ _ _ a w hst (hround x hP) fr (.inLoop p::k) cs;cases e with
       | normal=>
         obtain⟨σ',H',hs,y,hPy,hy1,hlt⟩:=hq;obtain⟨e2,a2,w2,hq2,harr2⟩:=ihn (inv.m y) (by omega) y hPy rfl a1 w1 (hy1 _ _ _ hs);exact⟨e2,a2,w2,hq2, .of_steps (Steps.trans harr (.one step_inLoop)) harr2⟩
       | exit id=>
         obtain⟨σ',H',hs,hk⟩:=hq;exact⟨.exit id,a1,w1,⟨σ',H',hs,hk⟩, .pass (x:= .inLoop p) rfl (λ_ _=> .inl (by simp)) harr⟩
       | ret=>
         obtain⟨σ',H',hs,hk⟩:=hq;exact⟨.ret,a1,w1,⟨σ',H',hs,hk⟩, .pass (x:= .inLoop p) rfl (λ_ _=> .inl (by simp)) harr⟩
       |goto l=>exact hq.elim
       |panic c=>exact⟨.panic c,a1,w1,hq, .pass (x:= .inLoop p) rfl (λ_ _=> .inl (by simp)) harr⟩
       |outgrown=>exact hq.elim
    obtain⟨e,a',w',hq,harr⟩:=key _ x0 hP0 rfl a w (hm0 _ _ _ hst);exact⟨e,a',w',hq, .of_steps (.one step_loop) harr⟩
 | exit id=>
   intro hqu code hc K σ H a w hst hv;rcases bq hc with⟨h,_⟩|⟨_,_,_,_,h,_⟩|⟨_,_,_,_,_,h⟩|⟨_,_,_,_,_,h,_⟩|⟨_,_,_,_,_,_,h,_⟩|⟨_,_,_,_,h,_⟩|⟨_,_,_,h,_⟩|⟨id',rfl,h⟩|⟨_,h⟩ <;>try (simp[bG]at h;done)
   simp only[bG,CC.exit.injEq]at h;subst h;exact wp_exit ⟨σ,H,hst,hv⟩
 | ret=>
   intro hqu code hc K σ H a w hst hv;rcases bq hc with⟨h,_⟩|⟨_,_,_,_,h,_⟩|⟨_,_,_,_,_,h⟩|⟨_,_,_,_,_,h,_⟩|⟨_,_,_,_,_,_,h,_⟩|⟨_,_,_,_,h,_⟩|⟨_,_,_,h,_⟩|⟨_,_,h⟩|⟨rfl,h⟩ <;>try (simp[bG]at h;done)
   exact wp_ret ⟨σ,H,hst,hv⟩
 | cut key c ih=>
   intro hqu code hc K σ H a w hst hv;simp only[vc]at hv;obtain⟨σ',H',hwk,hrest⟩:=hv;exact ih hqu code hc K _ _ a w (hwk _ _ _ hst) hrest
 | keep ls lh c ih=>
   intro hqu code hc K σ H a w hst hv;simp only[vc]at hv;refine ih hqu code hc K _ _ a w ?_ hv;obtain⟨hd,hN,tp,hw,hr⟩:=hst;have hm:=hw.sub (Iq (l:=lh));refine⟨hd,hN,tp,hm.1,λt=>hm.2 _ _ ?_⟩;unfold ix;exact Sv hr t
def xD(hS:∀f,Tri E.dq P f (S f).pt)(hmix:P.follows .mixedOrders=true)(cc:CC):∀(code:Code),aG P im E.N code=some (bG cc)->∀(K:Ex->Sg->ab->Prop) (σ:Sg) (H:ab) (a:Act) (w:World),
 St E σ H a w->vc S cc K σ H->code.wp P (qnK E K) a w:=λcode hc K σ H a w hst hv=>
 qBr (λ_ _ _ h=>h.no) (Po (z:=VM) hmix cc (oJ hS cc) code hc K σ H a w hst hv)
end
end Go.Gv
namespace Go.Gv
def Spc.mono(s:Spc):qZ s.pt:=by
 cases s with
 |none=>exactλ_ _ _ _ _ _ h=>h
 |pure c=>exactλd ds H K K' hk h=>⟨h.1,λr hr=>hk r H (h.2 r hr)⟩
 |gen A h=>exact h
section
variable {S:Nat->Spc}{σ:Sg}{H:ab}
def Jq{c:COp}{K K':D->Prop}(hk:∀d,K d->K' d)(h:aj c σ H K):aj c σ H K':=by
 obtain⟨pre,out,hf⟩:=VV c σ H;have hf:∀K,aj c σ H K↔ (pre/\∀d,out d->K d):=hf;rw[hf]at h ⊢;exact⟨h.1,λd hd=>hk d (h.2 d hd)⟩
def LR{n:Nat}{d:D}{K K':List D->Prop}(hk:∀l,K l->K' l)(h:kD n d H K):kD n d H K':=by
 unfold kD at h ⊢;split at h<;>(try simp only at h ⊢)
 ·exact⟨h.1,hk _ h.2⟩
 ·split at h
  ·exact⟨h.1,h.2.1,hk _ h.2.2⟩
  ·exact h.elim
 ·exact hk _ h
 ·split at h
  ·exact⟨h.1,h.2.1,h.2.2.1,hk _ h.2.2.2⟩
  ·exact h.elim
def qbS{n:Nat}{d:D}{K K':List D->Prop}(hk:∀l,K l->K' l)(h:vM n d H K):vM n d H K':=by
 unfold vM at h ⊢;split at h
 ·exact⟨h.1,hk _ h.2⟩
 ·exact LR hk h
theorem YX{o:MOp}{ds:List D}{dst:Option Nat}{K K':D->ab->Prop}(hk:∀d H,K d H->K' d H)(h:gM o ds dst H K):gM o ds dst H K':=by
 have rd:yd o ds H (λd=>K d H)->yd o ds H (λd=>K' d H):=λh=>by
  obtain⟨p,q,hq⟩:=qaH o ds H;exact(hq _).2 ⟨((hq _).1 h).1,λd hd=>hk _ _ (((hq _).1 h).2 d hd)⟩
 unfold gM at h ⊢;split at h
 ·split at h
  ·exactλx=>hk _ _ (h x)
  ·exact h.elim
 ·split at h
  ·exact⟨h.1,h.2.1,h.2.2.1,λl1 k' v' l2 e m=>hk _ _ (h.2.2.2.1 l1 k' v' l2 e m),λe=>hk _ _ (h.2.2.2.2 e)⟩
  ·exact h.elim
 ·split at h
  ·split at h
   ·exactλb=>hk _ _ (h b)
   ·exactλb=>hk _ _ (h b)
   ·unfold Jp at h ⊢;split at h
    ·exact⟨h.1,λb st c hb=>hk _ _ (h.2 b st c hb)⟩
    ·exact h.elim
   ·exact h.elim
  ·exact h.elim
 ·refine⟨h.1,?_⟩;have h:=h.2;split at h
  ·exact⟨h.1,λe=>hk _ _ (h.2.1 e),λl1 e l2 hl=>hk _ _ (h.2.2 l1 e l2 hl)⟩
  ·refine⟨h.1,?_⟩;have h:=h.2;unfold Jz at h ⊢;split at h
   ·exact⟨h.1,h.2.1,λe=>hk _ _ (h.2.2.1 e),λs h1 h2=>hk _ _ (h.2.2.2 s h1 h2)⟩
   ·exact h.elim
  ·exact h.elim
 ·split at h
  ·exact⟨h.1,h.2.1,h.2.2.1,λi k' v' e m=>hk _ _ (h.2.2.2.1 i k' v' e m),λe=>hk _ _ (h.2.2.2.2 e)⟩
  ·exact h.elim
 ·exact rd h
theorem qb8{c:COp}{dst:Option Nat}{K K':D->ab->Prop}(hk:∀d H,K d H->K' d H)(h:bk c dst σ H K):bk c dst σ H K':=by
 by_cases hro:c.isRead=true
 ·have e:∀K,bk c dst σ H K=aj c σ H λd=>K d H:=by
   intro K;cases c<;>first|rfl|(simp[COp.isRead]at hro;done)|skip
   ·rename_i im x;cases im<;>first|rfl|(simp[COp.isRead]at hro)
   ·rename_i mo xs;cases mo<;>first|(simp[COp.isRead,MOp.isRead]at hro;done)|rfl
  rw[e]at h ⊢;exact Jq (λd hd=>hk d H hd) h
 ·cases c
  case alloc el z=>
   simp only[bk]at h ⊢;split at h
   ·exactλb=>hk _ _ (h b)
   ·exact h.elim
  case box el im x=>
   cases im with
   |true=>exact absurd rfl hro
   | false=>
     simp only[bk]at h ⊢;split at h
     ·exact⟨h.1,λb=>hk _ _ (h.2 b)⟩
     ·exact h.elim
  case tbx el x=>
   simp only[bk]at h ⊢;split at h
   ·exact⟨h.1,λb=>hk _ _ (h.2 b)⟩
   ·exact h.elim
  case nslice el n=>
   simp only[bk]at h ⊢;split at h
   ·exactλb=>hk _ _ (h b)
   ·exact h.elim
  case mslice el n ps=>
   simp only[bk]at h ⊢;split at h
   ·exact⟨h.1,λb=>hk _ _ (h.2 b)⟩
   ·exact h.elim
  case mkslice el n b agg z l c=>
   simp only[bk]at h ⊢;split at h
   ·split at h
    ·exact⟨h.1,h.2.1,h.2.2.1,h.2.2.2.1,λx=>hk _ _ (h.2.2.2.2 x)⟩
    ·exact h.elim
   ·exact h.elim
  case store rt sz x y=>
   simp only[bk]at h ⊢;refine⟨h.1,h.2.1,?_⟩;have h2:=h.2.2;clear h;split at h2
   ·split at h2
    ·exact⟨h2.1,h2.2.1,hk _ _ h2.2.2⟩
    ·exact h2.elim
   ·split at h2
    ·exact⟨h2.1,h2.2.1,h2.2.2.1,h2.2.2.2.1,h2.2.2.2.2.1,λd hd=>hk _ _ (h2.2.2.2.2.2 d hd)⟩
    ·exact h2.elim
   ·exact h2.elim
  case srange x=>
   simp only[bk]at h ⊢;split at h
   ·exactλb=>hk _ _ (h b)
   ·exact h.elim
  case snext x=>
   simp only[bk]at h ⊢;split at h
   ·obtain⟨rfl,h⟩:=h;refine⟨rfl,?_⟩;split at h
    ·exact⟨h.1,λe=>hk _ _ (h.2.1 e),λe=>hk _ _ (h.2.2 e)⟩
    ·exact h.elim
   ·exact h.elim
  case append rt el n b x y=>
   simp only[bk]at h ⊢;refine qbS (λl h=>?_) h;split at h
   ·split at h
    ·exact⟨h.1,h.2.1,h.2.2.1,h.2.2.2.1,h.2.2.2.2.1,λv=>hk _ _ (h.2.2.2.2.2 v)⟩
    ·exact h.elim
   ·split at h
    ·exact⟨h.1,h.2.1,λv=>hk _ _ (h.2.2 v)⟩
    ·exact h.elim
   ·split at h
    ·exact⟨h.1,h.2.1,h.2.2.1,h.2.2.2.1,h.2.2.2.2.1,h.2.2.2.2.2.1,h.2.2.2.2.2.2.1,λv=>hk _ _ (h.2.2.2.2.2.2.2 v)⟩
    ·exact h.elim
   ·exact h.elim
  case appmk el n b agg z x c=>
   simp only[bk]at h ⊢;split at h
   ·split at h
    ·exact⟨h.1,h.2.1,h.2.2.1,λv=>hk _ _ (h.2.2.2 v)⟩
    ·exact h.elim
   ·exact h.elim
  case clear n agg z x=>
   simp only[bk]at h ⊢;split at h
   ·split at h
    ·exact⟨h.1,h.2.1,hk _ _ h.2.2⟩
    ·exact h.elim
   ·split at h
    ·exact⟨h.1,h.2.1,h.2.2.1,hk _ _ h.2.2.2⟩
    ·exact h.elim
   ·exact hk _ _ h
   ·exact h.elim
  case copy n x y=>
   simp only[bk]at h ⊢;refine LR (λl h=>?_) h;split at h
   ·split at h
    ·exact⟨h.1,h.2.1,hk _ _ h.2.2⟩
    ·exact h.elim
   ·split at h
    ·exact⟨h.1,h.2.1,h.2.2.1,hk _ _ h.2.2.2⟩
    ·exact h.elim
   ·exact h.elim
  case m mo xs=>exact YX hk h
  case call f xs=>exact h.elim
  case callv f xs=>exact h.elim
  case callb r f xs=>exact h.elim
  all_goals exact absurd rfl hro
def Xf{c:COp}{dst:Option Nat}{K K':D->ab->Prop}(hk:∀d H,K d H->K' d H)(h:aI S c dst σ H K):aI S c dst σ H K':=by
 cases c
 case call f args=>exact(S f).mono _ _ _ _ _ hk h
 case callb r f args=>exact(S f).mono _ _ _ _ _ hk h
 case callv f args=>
  simp only[aI]at h ⊢;split at h
  ·exact(S _).mono _ _ _ _ _ hk h
  ·exact h.elim
 all_goals
  simp only[aI]at h ⊢;exact qb8 hk h
def Iu:∀(cs:List D) (H:ab) {K K':List D->ab->Prop},(∀cs H,K cs H->K' cs H)->Iv cs H K->Iv cs H K'
 | [],H,K,K',hk,h=>hk _ _ h
 | c::cs,H,K,K',hk,h=>by
   have other:Iv cs H (λcs' H'=>K (c::cs') H')->Iv cs H (λcs' H'=>K' (c::cs') H'):=λh=>Iu cs H (λ_ _ h=>hk _ _ h) h
   cases c
   case own id x=>
    simp only[Iv]at h ⊢;split at h
    ·exact⟨h.1,Iu cs _ (λ_ _ h=>hk _ _ h) h.2⟩
    ·exact h.elim
   all_goals exact other h
def Zd{t n:Nat}{K K':Sg->ab->Prop}(hk:∀σ H,K σ H->K' σ H)(h:JG t n σ H K):JG t n σ H K':=by
 unfold JG at h ⊢;split at h<;>(try simp only at h ⊢)
 ·split at h
  ·exact⟨h.1,hk _ _ h.2⟩
  ·exact h.elim
 ·split at h
  ·exact⟨h.1,hk _ _ h.2⟩
  ·exact h.elim
 ·exact hk _ _ h
 ·split at h
  ·refine⟨h.1,h.2.1,?_⟩;have h2:=h.2.2;split at h2
   ·rename_i e;rw[if_pos e];exact⟨h2.1,λv=>hk _ _ (h2.2 v)⟩
   ·rename_i e;rw[if_neg e];exact hk _ _ h2
  ·exact h.elim
 ·exact Iu _ _ (λ_ _ h=>hk _ _ h) h
 ·exact hk _ _ h
def Gz{g:Option (Nat×Bool)}{yes no yes' no':Sg->Prop}(h1:∀σ,yes σ->yes' σ)(h2:∀σ,no σ->no' σ)(h:mV g σ yes no):mV g σ yes' no':=by
 unfold mV at h ⊢;split at h<;>(try simp only at h ⊢)
 ·exact h1 _ h
 ·split at h
  ·exact⟨λe=>h1 _ (h.1 e),λe=>h2 _ (h.2 e)⟩
  ·exact h2 _ h
  ·exact h.elim
def A2:∀(l:List CI) (σ:Sg) (H:ab) {K K':Sg->ab->Prop},(∀σ H,K σ H->K' σ H)->DU S l σ H K->DU S l σ H K'
 | [],σ,H,K,K',hk,h=>hk _ _ h
 | .frz t n::r,σ,H,K,K',hk,h=>Zd (λσ H h=>A2 r σ H hk h) h
 | .op dst g c::r,σ,H,K,K',hk,h=>Gz (λσ h=>Xf (λd H h=>A2 r _ H hk h) h) (λσ h=>A2 r _ H hk h) h
def YO{c:COp}{dst:Option Nat}{Hr:ab}{K K':D->ab->Prop}(hk:∀d H,K d H->K' d H)(h:ax S c dst σ Hr H K):ax S c dst σ Hr H K':=by
 obtain⟨pre,out,hf⟩:=MY S c dst σ Hr (uB H (c.wid dst));have hf:∀H',uB H' (c.wid dst)=uB H (c.wid dst)->∀K,ax S c dst σ Hr H' K↔ (pre/\∀d u,out d u->K d (jV H' (c.wid dst) u)):=hf;rw[hf H rfl]at h ⊢;exact⟨h.1,λd u hd=>hk _ _ (h.2 d u hd)⟩
def yy:∀(l:List CI) (σ:Sg) (Hr H:ab) {K K':Sg->ab->Prop},(∀σ H,K σ H->K' σ H)->kC S l σ Hr H K->kC S l σ Hr H K'
 | [],σ,Hr,H,K,K',hk,h=>hk _ _ h
 | .frz t n::r,σ,Hr,H,K,K',hk,h=>yy r σ (bD r Hr) H hk h
 | .op dst g c::r,σ,Hr,H,K,K',hk,h=>Gz (λσ h=>YO (λd H h=>yy r _ Hr H hk h) h) (λσ h=>yy r _ Hr H hk h) h
theorem yx(c:CC):∀{K K':Ex->Sg->ab->Prop} (σ:Sg) (H:ab),(∀e σ H,K e σ H->K' e σ H)->vc S c K σ H->vc S c K' σ H:=by
 induction c with
 |skip=>intro K K' σ H hk h;simp only[vc]at h ⊢;exact hk _ _ _ h
 |reg l=>intro K K' σ H hk h;simp only[vc]at h ⊢;exact A2 l σ H (λ_ _ h=>hk _ _ _ h) h
 |regd p t=>intro K K' σ H hk h;simp only[vc]at h ⊢;exact yy p σ _ H (λσ H h=>A2 t σ H (λ_ _ h=>hk _ _ _ h) h) h
 | seq a b iha ihb=>
   intro K K' σ H hk h;simp only[vc]at h ⊢;refine iha σ H (λe σ H h=>?_) h;cases e with
   |norm=>exact ihb σ H hk h
   |ex i=>exact hk _ _ _ h
   |ret=>exact hk _ _ _ h
 | ite c a b iha ihb=>
   intro K K' σ H hk h;simp only[vc]at h ⊢;split at h
   ·exact⟨λe=>iha σ H hk (h.1 e),λe=>ihb σ H hk (h.2 e)⟩
   ·exact h.elim
 | block id b ih=>
   intro K K' σ H hk h;simp only[vc]at h ⊢;refine ih σ H (λe σ H h=>?_) h;cases e with
   |norm=>exact hk _ _ _ h
   |ret=>exact hk _ _ _ h
   | ex i=>
     dsimp only at h ⊢;split at h
     ·rename_i e;rw[if_pos e];exact hk _ _ _ h
     ·rename_i e;rw[if_neg e];exact hk _ _ _ h
 | loop k b ih=>
   intro K K' σ H hk h;simp only[vc]at h ⊢;obtain⟨inv,h0,h1⟩:=h;refine⟨inv,h0,λx hx=>ih _ _ (λe σ H h=>?_) (h1 x hx)⟩;cases e with
   |norm=>exact h
   |ex i=>exact hk _ _ _ h
   |ret=>exact hk _ _ _ h
 |exit id=>intro K K' σ H hk h;simp only[vc]at h ⊢;exact hk _ _ _ h
 |ret=>intro K K' σ H hk h;simp only[vc]at h ⊢;exact hk _ _ _ h
 | cut k c ih=>
   intro K K' σ H hk h;simp only[vc]at h ⊢;obtain⟨σ',H',h0,h1⟩:=h;exact⟨σ',H',h0,ih _ _ hk h1⟩
 |keep ls lh c ih=>intro K K' σ H hk h;simp only[vc]at h ⊢;exact ih _ _ hk h
end
end Go.Gv
