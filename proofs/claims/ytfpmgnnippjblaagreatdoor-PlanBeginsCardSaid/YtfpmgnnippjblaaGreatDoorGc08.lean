/- T6 -/
import Derived.Test.YtfpmgnnippjblaaGreatDoorGc07
set_option linter.all false
namespace Go.Gv
section
variable {dq:Prop}
inductive Ex where
 |norm
 |ex (id:Nat)
 |ret
inductive CC where
 |skip
 |reg (l:List CI)
 |regd (pre tl:List CI)
 |seq (a b:CC)
 |ite (c:Operand) (a b:CC)
 |block (id:Nat) (b:CC)
 |loop (key:Nat) (b:CC)
 |exit (id:Nat)
 |ret
 |cut (key:Nat) (c:CC)
 |keep (ls lh:List Nat) (c:CC)
structure qsN where
 X:Type
 P:X->Prop
 s:X->Sg
 h:X->ab
 m:X->Nat
def Wk(c:Sg)(H:ab)(b:Sg)(H':ab):Prop:=∀(E:BU) (a:Act) (w:World),St E c H a w->St E b H' a w
def qbt(a b:D):Prop:=
 match b with
 | .any=>True
 | .own _ x=>a= .v x\/ ∃i,a= .own i x
 | .list n es=>a= .list n es\/(a= .v (.slice none 0 0)/\es=[])
 |b=>a=b
def isNilRow:Res->Prop
 | .row x _ _ es=>x= .slice none 0 0/\es=[]
 | _=>False
def nS:List (Nat×D)->Sg->Prop
 | [],_=>True
 |(t,d)::l,a=>qbt (a t) d/\nS l a
def uf:List (Nat×Res)->ab->Prop
 | [],_=>True
 |(i,r)::l,H=>(H i=some r\/isNilRow r)/\uf l H
def qyj:List (Nat×D)->Sg
 | []=>λ_=> .any
 |(t,d)::l=>upd (qyj l) t d
def jr(ls:List Nat)(a:Sg):Sg:=qyj (ls.map λt=>(t,a t))
def js:List Nat->ab->ab
 | [],_=>λ_=>none
 |i::l,H=>aj (js l H) i (H i)
def vc(S:Nat->Spc):CC->(Ex->Sg->ab->Prop)->Sg->ab->Prop
 | .skip,K,d,H=>K .norm d H
 | .reg l,K,d,H=>FH S l d H (K .norm)
 | .regd pre tl,K,d,H=>kG S pre d (bO pre H) H λd H=>FH S tl d H (K .norm)
 | .seq a b,K,d,H=>vc S a (λe d H=>match e with
   | .norm=>vc S b K d H
   |e=>K e d H) d H
 | .ite c a b,K,d,H=>match ev d c with
   | .v (.bool t)=>(t=true->vc S a K d H)/\(t=false->vc S b K d H)
   | _=>False
 | .block id b,K,d,H=>vc S b (λe d H=>match e with
   | .ex i=>if i=id then K .norm d H else K (.ex i) d H
   |e=>K e d H) d H
 | .loop _ b,K,d,H=>∃j:qsN,(∃x,j.P x/\Wk d H (j.s x) (j.h x))/\∀x,j.P x->vc S b (λe k H'=>match e with
    | .norm=>∃y,j.P y/\Wk k H' (j.s y) (j.h y)/\j.m y<j.m x
    |e=>K e k H') (j.s x) (j.h x)
 | .exit id,K,d,H=>K (.ex id) d H
 | .ret,K,d,H=>K .ret d H
 | .keep ls lh c,K,d,H=>vc S c K (jr ls d) (js lh H)
 | .cut _ c,K,d,H=>∃(k:Sg) (H':ab),Wk d H k H'/\vc S c K k H'
def bI:CC->CC
 | .reg l=> .reg (l.filter CI.real)
 | .regd pre tl=> .regd pre (tl.filter CI.real)
 | .seq a b=> .seq (bI a) (bI b)
 | .ite c a b=> .ite c (bI a) (bI b)
 | .block id b=> .block id (bI b)
 | .loop _ b=> .loop 0 (bI b)
 | .cut _ c=>bI c
 | .keep _ _ c=>bI c
 |c=>c
def cQ(ops:Array Oper):Nat:=
 ((List.range (ops.size+1)).find? λm=>(List.range ops.size).all λj=>decide (j<m)||(List.range j).all λi=>qcY (qfu ops) j i).getD ops.size
def COp.noRead:COp->Bool
 | .mv _| .nilck _| .faddr _ _| .ext _ _| .arith _ _ _| .cmp _ _ _| .not _| .conv _ _=>true
 | _=>false
def CI.noRead:CI->Bool
 | .op _ _ c=>c.noRead
 | .frz _ _=>false
def Wc(ops:Array Oper)(cis:List CI)(m k:Nat):Bool:=
 decide (k<=m) && (List.range k).all λj=>((cis[j]?).map CI.noRead).getD false||(List.range m).all λi=>decide (i<k)||(((cis[i]?).map λx=>x.wid.isNone).getD true)||qcY (qfu ops) i j
def CI.isSt:CI->Bool
 | .op _ _ (.store (some _) _ _ _)=>true
 | .op _ _ (.append (some r) _ _ _ _ _)=>decide (990<=r/\r< 1000)
 | _=>false
def CI.isLd:CI->Bool
 | .op _ _ (.load _ _ _)=>true
 | _=>false
def qvH(ops:Array Oper)(cis:List CI)(m:Nat):Option Nat:=do
 let f <- (List.range m).find? λi=>((cis[i]?).map CI.isSt).getD false
 let k <- ((List.range (f+1)).reverse).find? λk=>Wc ops cis m k
 if(List.range k).any λj=>((cis[j]?).map CI.isLd).getD false then some k else none
def qeC(ops:Array Oper)(cis:List CI)(m:Nat):List CI:=
 match qvH ops cis m with
 |some k=>if Wc ops cis m k then cis.take k++ .frz 0 0::(cis.take m).drop k else cis.take m
 |none=>cis.take m
def aG(P:Program)(im:List Nat)(N:Nat):Code->Option CC
 | .skip=>some .skip
 | .label _=>some .skip
 | .region _ ops false=>(lg P im N ops).map .reg
 | .region _ ops true=>do
   let cis <-lg P im N ops
   if qcN ops cis (cQ ops)then some (.regd (qeC ops cis (cQ ops)) (cis.drop (cQ ops)))else none
 | .seq a b=>do some (.seq (<-aG P im N a) (<-aG P im N b))
 | .cond c a b=>do if BO c then some (.ite c (<-aG P im N a) (<-aG P im N b))else none
 | .block id b=>do some (.block id (<-aG P im N b))
 | .loop b=>do some (.loop 0 (<-aG P im N b))
 | .exit id=>some (.exit id)
 | .ret=>some .ret
 | _=>none
section
variable {P:Program}{im:List Nat}{E:BU}{S:Nat->Spc}
def qpY{tp I:Nat->Prop}{w:World}{x:Value}{a b:D}(h:qbt a b)(c:R tp I w x a):R tp I w x b:=by
 unfold qbt at h;split at h
 ·exact .any x
 ·rcases h with rfl|⟨i,rfl⟩
  ·cases c with
   |v _ h1 _=>exact .own _ _ h1
  ·cases c with
   |own _ _ h1=>exact .own _ _ h1
 ·rcases h with rfl|⟨rfl,rfl⟩;lia
  ·cases c;exact .nolist _ _ _
 grind
theorem StW.sub{tp:Nat->Prop}{H H':ab}{w:World}(h:StW E tp H w)(hs:∀i r,H' i=some r->H i=some r\/isNilRow r):
 StW E tp H' w/\∀x d,R tp (be E.O tp H w) w x d->R tp (be E.O tp H' w) w x d:=by
 have t:∀r,isNilRow r->r.blk=none:=λr a=>by
  cases r with
  |box b c=>exact a.elim
  |iter b s p=>exact a.elim
  |tbox b s p=>exact a.elim
  |mrow x es=>exact a.elim
  |miter b c l=>exact a.elim
  |raw k=>exact a.elim
  |row x el n es=>obtain⟨rfl,rfl⟩:=a;rfl
 have q:∀b,bG H' b->bG H b:=λb ⟨i,r,h1,h2⟩=>by
  grind [bG]
 have move:∀x d,R tp (be E.O tp H w) w x d->R tp (be E.O tp H' w) w x d:=λx d a=>
  a.mono (λ_ h=>h) (λb hb=>⟨⟨hb.1,hb.2.1,hb.2.2.1,λho=>hb.2.2.2 (q b ho)⟩,rfl⟩) (λb _=> .refl _ _)
 refine⟨⟨h.hO,h.tpx,h.tpn,h.tpl,h.step,λb hb=>h.loc b (q b hb),⟨λi j r s b h1 h2 h3 h4=>?_,λi r b h1 h2=>?_,λi r h1=>?_⟩⟩,move⟩
 ·rcases hs i r h1 with k1|k1
  ·rcases hs j s h2 with k2|k2
   ·exact h.sat.dis i j r s b k1 k2 h3 h4
   grind
  grind
 ·rcases hs i r h1 with k1|k1
  ·exact h.sat.out i r b k1 h2
  grind
 ·rcases hs i r h1 with k1|k1
  ·exact(h.sat.ok i r k1).conv move (λ_ _=>rfl)
  ·cases r with
   |box b c=>exact k1.elim
   |iter b s p=>exact k1.elim
   |tbox b s p=>exact k1.elim
   |mrow x es=>exact k1.elim
   |miter b c l=>exact k1.elim
   |raw k=>exact k1.elim
   | row x el n es=>
     obtain⟨rfl,rfl⟩:=k1;exact⟨[],qHo _ _ _ _,by simp,λk y c h=>by grind⟩
def K0{H:ab} :∀{l:List Nat},∀i r,js l H i=some r->H i=some r\/isNilRow r
 | [],i,r,h=>by grind [js]
 | j::l,i,r,h=>by
   simp[js,aj]at h;split at h;grind
   ·exact K0 i r h
def Wq{tp I:Nat->Prop}{w:World}{a:Act}{b:Sg}(c:∀t,R tp I w (a.tmps.getD t undef) (b t)):∀{l:List Nat},∀t,R tp I w (a.tmps.getD t undef) (qyj (l.map λt=>(t,b t)) t)
 | [],t=> .any _
 | s::l,t=>by
   simp only[qGG,qyj,upd];split;grind
   ·exact Wq c t
def qsJ(E:BU)(K:Ex->Sg->ab->Prop):Exit->Act->World->Prop
 | .normal,a,w=>∃b H,St E b H a w/\K .norm b H
 | .exit i,a,w=>∃b H,St E b H a w/\K (.ex i) b H
 | .ret,a,w=>∃b H,St E b H a w/\K .ret b H
 | _,_,_=>False
def PostZ(E:BU)(z:List PanicEntry->Prop)(K:Ex->Sg->ab->Prop):Exit->Act->World->Prop
 | .normal,a,w=>∃b H,St E b H a w/\K .norm b H
 | .exit i,a,w=>∃b H,St E b H a w/\K (.ex i) b H
 | .ret,a,w=>∃b H,St E b H a w/\K .ret b H
 | .panic c,a,w=>a.defers=E.ds/\qdG E z c w
 | _,_,_=>False
def PostZ.no{E:BU}{K:Ex->Sg->ab->Prop}{e:Exit}{a:Act}{w:World}(h:PostZ E Z2 K e a w):qsJ E K e a w:=by
 cases e<;>first|exact h|exact h.2.1.elim
def QuietL(dq:Prop)(P:Program)(S:Nat->Spc):List CI->Prop
 | []=>True
 |x::l=>((∀y∈l,lS x y=false)\/dN dq P Z2 S x)/\QuietL dq P S l
def QuietL.get{P:Program}{S:Nat->Spc}{l:List CI} :QuietL dq P S l->∀(j i:Nat) (x y:CI),j<i->l[j]? =some x->l[i]? =some y->lS x y=true->dN dq P Z2 S x:=by
 induction l with
 |nil=>simp
 | cons z l c=>
   intro a j i x y b d h k
   let ⟨h1,h2⟩:=a
   grind
def O7{P:Program}{S:Nat->Spc} :∀{l:List CI},(∀x∈l,dN dq P Z2 S x)->QuietL dq P S l
 | [],_=>trivial
 |x::l,h=>⟨.inr (h x (by simp)),O7 λy a=>h y (by grind)⟩
def IG(dq:Prop)(P:Program)(z:List PanicEntry->Prop)(S:Nat->Spc):CC->Prop
 | .reg l=>∀x∈l,dN dq P z S x
 | .regd pre tl=>(∀x∈pre,dN dq P z S x)/\(∀x∈tl,dN dq P z S x)/\QuietL dq P S (pre.filter CI.real)
 | .seq a b=>IG dq P z S a/\IG dq P z S b
 | .ite _ a b=>IG dq P z S a/\IG dq P z S b
 | .block _ b=>IG dq P z S b
 | .loop _ b=>IG dq P z S b
 | .cut _ b=>IG dq P z S b
 | .keep _ _ b=>IG dq P z S b
 | _=>True
def Wd{P:Program}{S:Nat->Spc}(h:∀f,Tri dq P f (S f).pt):∀x,dN dq P Z2 S x
 | .op _ _ c=>qhl h c
 | .frz _ _=>trivial
def pj{P:Program}{S:Nat->Spc}(h:∀f,Tri dq P f (S f).pt):∀cc,IG dq P Z2 S cc
 | .reg l=>λx _=>Wd h x
 | .regd pre tl=>⟨λx _=>Wd h x,λx _=>Wd h x,O7 λx _=>Wd h x⟩
 | .seq a b=>⟨pj h a,pj h b⟩
 | .ite _ a b=>⟨pj h a,pj h b⟩
 | .block _ b=>pj h b
 | .loop _ b=>pj h b
 | .cut _ b=>pj h b
 | .keep _ _ b=>pj h b
 | .skip=>trivial
 | .exit _=>trivial
 | .ret=>trivial
def xY(x:CI)(Hr:ab):ab:=if x.noRead thenλ_=>none else Hr
def qV:List CI->ab->List (CI×ab)
 | [],_=>[]
 | .frz _ _::r,Hr=>qV r (bO r Hr)
 | .op d g c::r,Hr=>(.op d g c,xY (.op d g c) Hr)::qV r Hr
def Vu{c:COp}{dst:Option Nat}{b:Sg}{Hr a H:ab}{K:D->ab->Prop}(h:c.noRead=true):aw S c dst b Hr H K↔aw S c dst b a H K:=by
 cases c<;>first|(simp[COp.noRead]at h;done)|rfl
def qjy{d:Option Nat}{g:Option (Nat×Bool)}{c:COp}{dst:Option Nat}{a:Sg}{Hr H:ab}{K:D->ab->Prop} :aw S c dst a (xY (.op d g c) Hr) H K↔aw S c dst a Hr H K:=by
 unfold xY;split
 ·rename_i h;exact Vu h
 rfl
theorem HG{K:Sg->ab->Prop} :∀(l:List CI) (j:Sg) (Hr H:ab),kG S l j Hr H K->qhZ S (qV l Hr) j H K
 | [],j,Hr,H,h=>h
 | .frz _ _::l,j,Hr,H,h=>HG l j (bO l Hr) H h
 | .op dst g c::r,j,Hr,H,h=>by
   simp[kG]at h;simp[qV,qhZ,QV,CI.dst];have mono:∀a:Sg,aw S c dst a Hr H (λd H'=>kG S r (fK a dst d) Hr H' K)->aw S c dst a (xY (.op dst g c) Hr) H (λd H'=>qhZ S (qV r Hr) (fK a dst d) H' K):=λa hp=>by
    let ⟨pre,out,p⟩:=PP S c dst a Hr (zl H (c.wid dst))
    let ⟨h1,h2⟩:=(p H rfl _).1 hp
    exact qjy.2 ((p H rfl _).2 ⟨h1,λd u ho=>HG r _ Hr _ (h2 d u ho)⟩)
   cases g with
   |none=>exact mono j h
   | some q=>
     let ⟨s,b⟩:=q
     simp[nl]at h;split at h
     ·rename_i t k;simp only;rw[k];refine⟨λe=>?_,λe=>?_⟩;grind [HI]
      ·have:=h.2 e;rw[<-e,HI k]at this;exact HG r _ Hr H this
     ·rename_i k;simp only;rw[k];exact HG r _ Hr H h
     grind
def AL(Hr:ab):∀(l:List CI),(∀x∈l,x.real=true)->∀(r:List CI),qV (l++r) Hr=(l.map λx=>(x,xY x Hr)) ++qV r Hr
 | [],_,r=>rfl
 | .frz _ _::l,h,r=>by simp[CI.real]at h
 | .op _ _ _::l,h,r=>by
   simp[qV];rw[AL Hr l (λx a=>h x (by grind)) r]
def Gq{t:Nat}{H:ab} :∀{l:List CI},(∀x∈l,x.real=true)->∀x∈l,Gu x.wid t->bO l H t=none
 | .frz _ _::l,h,x,hx,a=>by simp[CI.real]at h
 | .op _ _ _::l,h,x,hx,a=>by
   simp only[bO];rcases qGm.1 hx with rfl|hx;grind
   ·split
    ·rfl
    ·exact Gq (λx hx=>h x (by grind)) x hx a
def De{H:ab} :∀(l:List CI),Xz (bO l H) H
 | []=>λ_ _ h=>h
 | .frz _ _::l=>λ_ _ h=>h
 | .op _ _ _::l=>λi r h=>by
   simp only[bO]at h;split at h;grind
   ·exact De l i r h
def Tn{H:ab} :∀(l:List CI) (a b:Nat) (r:List CI),(∀x∈l,x.real=true)->bO (l++ .frz a b::r) H=bO l H
 | [],_,_,_,_=>rfl
 | .frz _ _::l,_,_,_,h=>by rfl
 | .op _ _ _::l,a,b,r,h=>by
   simp[bO];rw[Tn l a b r (λx c=>h x (by grind))]
def ZX{ops:Array Oper}{cis:List CI}{m:Nat}(h:qcN ops cis m=true):
 (∀i o,ops[i]? =some o->∀j∈Lm o,j<i)/\m<=ops.size/\(∀j,m<=j->j<ops.size->∀i,i<j->qcY (qfu ops) j i=true)/\
 (∀j,j<m->∀i,i<j->qcY (qfu ops) j i=true\/ ∃x y,cis[i]? =some x/\cis[j]? =some y/\lS x y=true):=by
 unfold qcN at h;simp[decide_eq_true_eq]at h;grind
def To{α b:Type}{f:α->Option b} :∀{l:List α} {r:List b} (m:Nat),l.mapM f=some r->(l.drop m).mapM f=some (r.drop m)
 |l,r,0,h=>by grind
 | [],r,m+1,h=>by grind
 | a::l,r,m+1,h=>by
   simp[qF3]at h
   let ⟨x,d,y,c,h⟩:=h
   cases h;simpa using To m c
theorem qaN{ops:Array Oper}{id:Nat}{pre tl:List CI}{K:Ex->Sg->ab->Prop}{z:List PanicEntry->Prop}(hSp:∀x∈pre,dN E.dq P z S x)(hSt:∀x∈tl,dN E.dq P z S x)(hqu:QuietL E.dq P S (pre.filter CI.real))(hc:aG P im E.N (.region id ops true)=some (.regd pre (tl.filter CI.real)))
 {Z:Sg} {H:ab} {a:Act} {w:World} (hst:St E Z H a w) (hv:kG S pre Z (bO pre H) H λZ H=>FH S tl Z H (K .norm)):wpAny P .any ops (PostZ E z K) ops.size (Array.replicate ops.size false) a w.drew:=by
 simp only[aG,qF5,qF3]at hc
 let ⟨cis,L,hc⟩:=hc
 split at hc
 ·rename_i hok;simp[CC.regd.injEq]at hc
  let ⟨hpre,htl⟩:=hc
  let ⟨hC0,hm,hC2,hC1⟩:=ZX hok
  let ⟨hclen,hcget⟩:=vU L
  have hst':St E Z H a w.drew:=by
   let ⟨hd,hN,tp,hw,hr⟩:=hst
   have hmv:=hw.grow (Ww w none);exact⟨hd,hN,tp,hmv.1,λt=>hmv.2 _ _ (hr t)⟩
  have p:∀x∈cis,x.real=true:=λx b=>by
   let ⟨i,hi⟩:=qGp.1 b
   have hil:i<ops.size:=by grind
   let ⟨y,h1,h2⟩:=hcget i ops[i] (by simp)
   rw[hi]at h1;cases h1;obtain⟨g,c,rfl,_⟩:=iq h2;rfl
  have hfil:pre.filter CI.real=cis.take (cQ ops):=by
   have I:∀l:List CI,(∀x∈l,x.real=true)->l.filter CI.real=l:=λl h=>qHr.2 h
   rw[<-hpre];unfold qeC;split
   ·split
    ·rename_i k _ u;unfold Wc at u;simp[qF9,decide_eq_true_eq]at u;rw[qHw,I _ λx b=>p x (qGq b),qHV];simp[CI.real,qGQ,if_false];rw[I _ λx b=>p x (qGq (qGO b))]
     conv=>rhs;rw[<-qGB k (cis.take (cQ ops)),List.take_take,Nat.min_eq_left u.1]
    ·exact I _ λx b=>p x (qGq b)
   ·exact I _ λx b=>p x (qGq b)
  rw[hfil]at hqu;have hSj:∀j x,j<cQ ops->cis[j]? =some x->dN E.dq P z S x:=λj x hj b=>by
   refine hSp x ?_;have hx':x∈pre.filter CI.real:=by
    rw[hfil,qGp];exact⟨j,by rw[qGo,if_pos hj];exact b⟩
   exact(qG2.1 hx').1
  have Y:∀j i x y,j<i->i<cQ ops->cis[j]? =some x->cis[i]? =some y->lS x y=true->dN E.dq P Z2 S x:=λj i x y M hi b hy ha=>
   hqu.get j i x y M (by rw[qGo,if_pos (by lia)];exact b) (by rw[qGo,if_pos hi];exact hy) ha
  let ⟨k,hkm,hkok,hpre2⟩:∃k,k<=cQ ops/\(∀i j x t,k<=i->i<cQ ops->j<k->cis[i]? =some x->Gu x.wid t->(∃y,cis[j]? =some y/\y.noRead=true)\/qcY (qfu ops) i j=true)/\
   qV pre (bO pre H)=((cis.take k).map λx=>(x,xY x (bO (cis.take k) H))) ++ (((cis.take (cQ ops)).drop k).map λx=>(x,xY x (bO ((cis.take (cQ ops)).drop k) (bO (cis.take k) H)))):=by
   have A:∀n,∀x∈cis.take n,x.real=true:=λn x b=>p x (qGq b)
   have hr2:∀n k,∀x∈ (cis.take n).drop k,x.real=true:=λn k x b=>A n x (qGO b)
   have plain:pre=cis.take (cQ ops)->∃k,k<=cQ ops/\(∀i j x t,k<=i->i<cQ ops->j<k->cis[i]? =some x->Gu x.wid t->(∃y,cis[j]? =some y/\y.noRead=true)\/qcY (qfu ops) i j=true)/\
    qV pre (bO pre H)=((cis.take k).map λx=>(x,xY x (bO (cis.take k) H))) ++ (((cis.take (cQ ops)).drop k).map λx=>(x,xY x (bO ((cis.take (cQ ops)).drop k) (bO (cis.take k) H)))):=λe=>by
    refine⟨cQ ops,qGb _,λi j x t h1 h2=>by lia,?_⟩;have:(cis.take (cQ ops)).drop (cQ ops)=[]:=by simp
    rw[e,this];have:=AL (bO (cis.take (cQ ops)) H) (cis.take (cQ ops)) (A _) [];simpa [qV]using this
   have s:=hpre.symm;unfold qeC at s;split at s
   ·rename_i k _;split at s
    ·rename_i u;unfold Wc at u;simp[qF9,decide_eq_true_eq,qGa,qHC,Bool.or_eq_true]at u;refine⟨k,u.1,λi j x t h1 h2 h3 h4 h5=>?_,?_⟩
     ·rcases u.2 j h3 with h|h
      ·left;cases hj:cis[j]? with
       |none=>rw[hj]at h;simp at h
       |some y=>rw[hj]at h;exact⟨y,rfl,by simpa using h⟩
      ·right;rcases h i h2 with(h|h)|h
       ·lia
       ·rw[h4]at h;exfalso;revert h;cases hw:x.wid with
        |none=>rw[hw]at h5;exact h5.elim
        |some q=>simp[hw]
       ·exact h
     ·rw[s,Tn _ _ _ _ (A _),AL _ _ (A _)];simp[qV];congr 1;have:=AL (bO ((cis.take (cQ ops)).drop k) (bO (cis.take k) H)) ((cis.take (cQ ops)).drop k) (hr2 _ _) [];simpa [qV]using this
    ·exact plain s
   ·exact plain s
  have A:∀n,∀x∈cis.take n,x.real=true:=λn x b=>p x (qGq b)
  have hr2:∀n k,∀x∈ (cis.take n).drop k,x.real=true:=λn k x b=>A n x (qGO b)
  have mem1:∀i x,i<k->cis[i]? =some x->x∈cis.take k:=λi x hi b=>qGp.2 ⟨i,by rw[qGo,if_pos hi];exact b⟩
  have mem2:∀i x,k<=i->i<cQ ops->cis[i]? =some x->x∈ (cis.take (cQ ops)).drop k:=λi x h1 h2 b=>qGp.2 ⟨i -k,by rw[qG8,qGo,if_pos (by lia),show k+ (i -k)=i by lia];exact b⟩
  have C:∀i x t,i<k->cis[i]? =some x->Gu x.wid t->bO (cis.take k) H t=none:=λi x t hi b O=>Gq (A _) x (mem1 i x hi b) O
  have U:∀i x t,i<cQ ops->cis[i]? =some x->Gu x.wid t->bO ((cis.take (cQ ops)).drop k) (bO (cis.take k) H) t=none:=λi x t hi b O=>by
   by_cases F:i<k
   ·cases he:bO ((cis.take (cQ ops)).drop k) (bO (cis.take k) H) t with
    |none=>rfl
    | some r=>
      have:=De _ _ _ he;rw[C i x t F b O]at this;cases this
   ·exact Gq (hr2 _ _) x (mem2 i x (by lia) hi b) O
  have d:∀x (Hr:ab) t,Hr t=none->xY x Hr t=none:=λx Hr t h=>by
   unfold xY;split
   ·rfl
   ·exact h
  have W:∀x (Hr:ab),Xz Hr H->Xz (xY x Hr) H:=λx Hr h=>by
   unfold xY;split
   ·intro i r hi;cases hi
   ·exact h
  have hmain:=qnF (im:=im) (cis:=cis) (tl:=tl) (Hr:=λj=>xY ((cis[j]?).getD (.frz 0 0)) (if j<k then bO (cis.take k) H else bO ((cis.take (cQ ops)).drop k) (bO (cis.take k) H))) (Q:=PostZ E z K) (λc a w' h1 h2=>⟨h1,h2⟩) (λZ H a w hs hk=>⟨Z,H,hs,hk⟩) L hC0 hSj Y hm hC2 hC1 (by
   rw[<-htl];exact To _ L) hSt (λi j x t hi hj M b O=>by
   by_cases J:j<k
   ·simp[if_pos J];by_cases F:i<k
    ·exact .inl (d _ _ _ (C i x t F b O))
    ·rcases hkok i j x t (by lia) hi J b O with⟨y,hy,hn⟩|h
     ·left;simp[hy,qGJ,xY];rw[if_pos hn]
     ·exact .inr h
   ·simp[if_neg J];exact .inl (d _ _ _ (U i x t hi b O))) (λi j x t hi hj M b O=>by
   by_cases J:j<k
   ·simp[if_pos J];exact d _ _ _ (C i x t (by lia) b O)
   ·simp[if_neg J];exact d _ _ _ (U i x t hi b O)) (cQ ops) (List.range (cQ ops)) (Array.replicate ops.size false) (by simp) (by
   simp only[qHe];intro i j hi hj M;simpa using M) (λi hi=>by simpa using hi) (by simp) (λi hi=>by
    constructor
    ·intro h;simp[zN,hi]at h
    ·rintro⟨h1,h2⟩;exact absurd (qHC.2 h1) h2) (λi o ho hd=>by
    exfalso;simp[zN]at hd;have hi:i<ops.size:=(qGg.1 ho).1;simp[hi]at hd) Z H a w.drew hst' (λi _=>by
    refine W _ _ ?_;split
    ·exact De _
    ·exactλi r hi=>De _ _ _ (De _ _ _ hi)) (by
    have hv2:=HG _ _ _ _ hv;rw[hpre2]at hv2;have hlist:((List.range (cQ ops)).map λi=>((cis[i]?).getD (.frz 0 0),xY ((cis[i]?).getD (.frz 0 0)) (if i<k then bO (cis.take k) H else bO ((cis.take (cQ ops)).drop k) (bO (cis.take k) H))))=
     ((cis.take k).map λx=>(x,xY x (bO (cis.take k) H))) ++ (((cis.take (cQ ops)).drop k).map λx=>(x,xY x (bO ((cis.take (cQ ops)).drop k) (bO (cis.take k) H)))):=by
     have hcl:cQ ops<=cis.length:=by lia
     have hgeti:∀i,i<cQ ops->∃x,cis[i]? =some x:=λi hi=>⟨_,qF6 (by lia)⟩
     apply qGN;intro i;have hl1:((cis.take k).map λx=>(x,xY x (bO (cis.take k) H))).length=k:=by simp;lia
     by_cases him:i<cQ ops
     ·let ⟨x,b⟩:=hgeti i him
      rw[qGn,qIh him];simp only[qHJ,b,qGJ];by_cases F:i<k
      ·rw[qGI (by lia),qGn,qGo,if_pos F,b];simp[F]
      ·rw[qGH (by lia),hl1,qGn,qG8,qGo,if_pos (show k+ (i -k)<cQ ops by lia),show k+ (i -k)=i by lia,b];simp[F]
     ·have e1:((cis.take k).map λx=>(x,xY x (bO (cis.take k) H))).length+ (((cis.take (cQ ops)).drop k).map λx=>(x,xY x (bO ((cis.take (cQ ops)).drop k) (bO (cis.take k) H)))).length=cQ ops:=by
       rw[hl1,qGE,qG9,qGv];lia
      rw[qGu (by simp;lia),qGu];rw[qGC,e1];lia
    rw[hlist];exact hv2)
  grind
 grind
theorem qdo{ops:Array Oper}{id:Nat}{pre tl:List CI}{K:Ex->Sg->ab->Prop}{z:List PanicEntry->Prop}(d:∀x∈pre,dN E.dq P z S x)(h:∀x∈tl,dN E.dq P z S x)(j:QuietL E.dq P S (pre.filter CI.real))(b:P.follows .mixedOrders=true)(hc:aG P im E.N (.region id ops true)=some (.regd pre (tl.filter CI.real)))
 {c:Sg} {H:ab} {a:Act} {w:World} (k:St E c H a w) (l:kG S pre c (bO pre H) H λc H=>FH S tl c H (K .norm)):(Code.region id ops true).wp P (PostZ E z K) a w:=
 wp_region_any b (qaN d h j hc k l)
theorem br{N:Nat}{code:Code}{c:CC}(h:aG P im N code=some c):
 (c= .skip/\(code= .skip\/ ∃l,code= .label l))\/(∃id ops l,code= .region id ops false/\c= .reg l/\lg P im N ops=some l)\/(∃id ops pre tl,code= .region id ops true/\c= .regd pre tl)\/
 (∃a b x y,code= .seq a b/\c= .seq x y/\aG P im N a=some x/\aG P im N b=some y)\/
 (∃q a b x y,code= .cond q a b/\c= .ite q x y/\BO q=true/\aG P im N a=some x/\aG P im N b=some y)\/
 (∃id a x,code= .block id a/\c= .block id x/\aG P im N a=some x)\/(∃a x,code= .loop a/\c= .loop 0 x/\aG P im N a=some x)\/
 (∃id,code= .exit id/\c= .exit id)\/(code= .ret/\c= .ret):=by
 cases code with
 |skip=>simp[aG]at h;grind
 |label l=>simp[aG]at h;grind
 | region id ops d=>
   cases d
   ·obtain⟨l,hl,rfl⟩:=aV h;grind
   ·simp[aG,qF3]at h;grind
 | seq a b=>
   simp[aG,qF3]at h;grind
 | cond q a b=>
   simp only[aG]at h;split at h
   ·simp[qF3]at h;grind
   grind
 | block id b=>
   simp[aG,qF3]at h;grind
 | loop b=>
   simp[aG,qF3]at h;grind
 |exit id=>simp[aG]at h;grind
 |ret=>simp[aG]at h;grind
 | _=>grind [aG]
theorem qcD{ops:Array Oper}{id:Nat}{l:List CI}{K:Ex->Sg->ab->Prop}{z:List PanicEntry->Prop}(h:∀x∈l,dN E.dq P z S x)(hc:lg P im E.N ops=some (l.filter CI.real))
 {b:Sg} {H:ab} {a:Act} {w:World} (d:St E b H a w) (j:FH S l b H (K .norm)):(Code.region id ops false).wp P (PostZ E z K) a w:=
 wp_region_list (SC (im:=im) (Q:=PostZ E z K) (K:=K .norm) (λc a w' h1 h2=>⟨h1,h2⟩) (λb H a w hs hk=>⟨b,H,hs,hk⟩) l h ops.toList hc b H a w d j)
theorem Ss{z:List PanicEntry->Prop}(hmix:P.follows .mixedOrders=true)(cc:CC):IG E.dq P z S cc->∀(code:Code),aG P im E.N code=some (bI cc)->∀(K:Ex->Sg->ab->Prop) (C:Sg) (H:ab) (a:Act) (w:World),
 St E C H a w->vc S cc K C H->code.wp P (PostZ E z K) a w:=by
 induction cc with
 | skip=>
   intro j code hc K C H a w d r;rcases br hc with⟨_,h⟩|⟨_,_,_,_,h,_⟩|⟨_,_,_,_,_,h⟩|⟨_,_,_,_,_,h,_⟩|⟨_,_,_,_,_,_,h,_⟩|⟨_,_,_,_,h,_⟩|⟨_,_,_,h,_⟩|⟨_,_,h⟩|⟨_,h⟩ <;>try (simp[bI]at h)
   rcases h with rfl|⟨l,rfl⟩
   ·exact wp_skip ⟨C,H,d,r⟩
   ·exact wp_label ⟨C,H,d,r⟩
 | reg l=>
   grind [IG,vc,br,bI,qcD]
 | regd pre tl=>
   grind [IG,vc,br,bI,qdo]
 | seq x y M O=>
   intro j code hc K C H a w d r;rcases br hc with⟨h,_⟩|⟨_,_,_,_,h,_⟩|⟨_,_,_,_,_,h⟩|⟨p,q,x',y',rfl,h,Q,hy⟩|⟨_,_,_,_,_,_,h,_⟩|⟨_,_,_,_,h,_⟩|⟨_,_,_,h,_⟩|⟨_,_,h⟩|⟨_,h⟩ <;>try (simp[bI]at h;done)
   simp[bI]at h
   let ⟨rfl,rfl⟩:=h
   refine wp_seq (qHm ?_ (M j.1 p Q _ C H a w d r));intro e U w' hp;cases e with
   | normal=>
     let ⟨u,H',hs,hk⟩:=hp
     exact O j.2 q hy K u H' U w' hs hk
   |exit id=>exact hp
   |ret=>exact hp
   |goto l=>exact hp
   |panic c=>exact hp
   |outgrown=>exact hp
 | ite q x y M O=>
   intro j code hc K C H a w d r;rcases br hc with⟨h,_⟩|⟨_,_,_,_,h,_⟩|⟨_,_,_,_,_,h⟩|⟨_,_,_,_,_,h,_⟩|⟨q',p1,p2,x',y',rfl,h,I,Q,hy⟩|⟨_,_,_,_,h,_⟩|⟨_,_,_,h,_⟩|⟨_,_,h⟩|⟨_,h⟩ <;>try (simp[bI]at h;done)
   simp[bI,CC.ite.injEq]at h
   let ⟨rfl,rfl,rfl⟩:=h
   simp[vc]at r;have L:=d
   let ⟨hd,hN,tp,hw,hr⟩:=d
   have hqr:=qdj hr q I;split at r
   ·rename_i t e1;rw[e1]at hqr;refine wp_cond_split hqr.inv_v (λh=>?_) (λh=>?_)
    ·exact M j.1 p1 Q K C H a w L (r.1 h)
    ·exact O j.2 p2 hy K C H a w L (r.2 h)
   grind
 | block id b W=>
   intro j code hc K C H a w d r;rcases br hc with⟨h,_⟩|⟨_,_,_,_,h,_⟩|⟨_,_,_,_,_,h⟩|⟨_,_,_,_,_,h,_⟩|⟨_,_,_,_,_,_,h,_⟩|⟨id',p,x',rfl,h,Q⟩|⟨_,_,_,h,_⟩|⟨_,_,h⟩|⟨_,h⟩ <;>try (simp[bI]at h;done)
   simp[bI,CC.block.injEq]at h
   let ⟨rfl,rfl⟩:=h
   refine wp_block (qHm ?_ (W j p Q _ C H a w d r));intro e U w' hp;cases e with
   |normal=>exact hp
   | exit i=>
     let ⟨u,H',hs,hk⟩:=hp
     simp[Exit.inBlock];by_cases hi:i=id
     ·simp[if_pos hi]at hk ⊢;exact⟨u,H',hs,hk⟩
     ·simp[if_neg hi]at hk ⊢;exact⟨u,H',hs,hk⟩
   |ret=>exact hp
   |goto l=>exact hp
   |panic c=>exact hp
   |outgrown=>exact hp
 | loop key b W=>
   intro j code hc K C H a w d r;rcases br hc with⟨h,_⟩|⟨_,_,_,_,h,_⟩|⟨_,_,_,_,_,h⟩|⟨_,_,_,_,_,h,_⟩|⟨_,_,_,_,_,_,h,_⟩|⟨_,_,_,_,h,_⟩|⟨p,x',rfl,h,Q⟩|⟨_,_,h⟩|⟨_,h⟩ <;>try (simp[bI]at h;done)
   simp[bI,CC.loop.injEq,true_and]at h;subst h;simp[vc]at r
   let ⟨F,⟨x0,hP0,hm0⟩,J⟩:=r
   ·skip
    intro fr k cs;have key:∀(n:Nat) (x:F.X),F.P x->F.m x=n->∀a w,St E (F.s x) (F.h x) a w->
     ∃e U w',PostZ E z K e U w'/\Arrives P (lone (fr.at a (.code p:: .inLoop p::k)) cs w) fr k cs e U w':=by
     intro n
     induction n using Nat.strongRecOn with
     | _ n ihn=>
       intro x hP hm a w d
       let ⟨e,a1,w1,I,A⟩:=W j p Q _ _ _ a w d (J x hP) fr (.inLoop p::k) cs
       cases e with
       | normal=>
         let ⟨u,H',hs,y,hPy,hy1,hlt⟩:=I
         let ⟨e2,a2,w2,hq2,Y⟩:=ihn (F.m y) (by lia) y hPy rfl a1 w1 (hy1 _ _ _ hs)
         exact⟨e2,a2,w2,hq2, .of_steps (Steps.trans A (.one step_inLoop)) Y⟩
       | exit id=>
         let ⟨u,H',hs,hk⟩:=I
         exact⟨.exit id,a1,w1,⟨u,H',hs,hk⟩, .pass (x:= .inLoop p) rfl (λ_ _=> .inl (by simp)) A⟩
       | ret=>
         let ⟨u,H',hs,hk⟩:=I
         exact⟨.ret,a1,w1,⟨u,H',hs,hk⟩, .pass (x:= .inLoop p) rfl (λ_ _=> .inl (by simp)) A⟩
       |goto l=>exact I.elim
       |panic c=>exact⟨.panic c,a1,w1,I, .pass (x:= .inLoop p) rfl (λ_ _=> .inl (by simp)) A⟩
       |outgrown=>exact I.elim
    let ⟨e,U,w',I,A⟩:=key _ x0 hP0 rfl a w (hm0 _ _ _ d)
    exact⟨e,U,w',I, .of_steps (.one step_loop) A⟩
 | exit id=>
   intro j code hc K C H a w d r;rcases br hc with⟨h,_⟩|⟨_,_,_,_,h,_⟩|⟨_,_,_,_,_,h⟩|⟨_,_,_,_,_,h,_⟩|⟨_,_,_,_,_,_,h,_⟩|⟨_,_,_,_,h,_⟩|⟨_,_,_,h,_⟩|⟨id',rfl,h⟩|⟨_,h⟩ <;>try (simp[bI]at h;done)
   simp[bI,CC.exit.injEq]at h;subst h;exact wp_exit ⟨C,H,d,r⟩
 | ret=>
   intro j code hc K C H a w d r;rcases br hc with⟨h,_⟩|⟨_,_,_,_,h,_⟩|⟨_,_,_,_,_,h⟩|⟨_,_,_,_,_,h,_⟩|⟨_,_,_,_,_,_,h,_⟩|⟨_,_,_,_,h,_⟩|⟨_,_,_,h,_⟩|⟨_,_,h⟩|⟨rfl,h⟩ <;>try (simp[bI]at h;done)
   exact wp_ret ⟨C,H,d,r⟩
 | cut key c W=>
   intro j code hc K C H a w d r;simp[vc]at r
   let ⟨u,H',hwk,Z⟩:=r
   exact W j code hc K _ _ a w (hwk _ _ _ d) Z
 | keep ls lh c W=>
   intro j code hc K C H a w d r;simp[vc]at r;refine W j code hc K _ _ a w ?_ r
   let ⟨hd,hN,tp,hw,hr⟩:=d
   have hm:=hw.sub (K0 (l:=lh));refine⟨hd,hN,tp,hm.1,λt=>hm.2 _ _ ?_⟩;unfold jr;exact Wq hr t
def yP(j:∀f,Tri E.dq P f (S f).pt)(b:P.follows .mixedOrders=true)(cc:CC):∀(code:Code),aG P im E.N code=some (bI cc)->∀(K:Ex->Sg->ab->Prop) (c:Sg) (H:ab) (a:Act) (w:World),
 St E c H a w->vc S cc K c H->code.wp P (qsJ E K) a w:=λcode hc K c H a w d k=>
 qHm (λ_ _ _ h=>h.no) (Ss (z:=Z2) b cc (pj j cc) code hc K c H a w d k)
end
end
section
def Spc.mono(s:Spc):qq s.pt:=by
 cases s with
 |none=>exactλ_ _ _ _ _ _ h=>h
 |pure c=>exactλd ds H K b hk h=>⟨h.1,λr a=>hk r H (h.2 r a)⟩
 |gen A h=>exact h
section
variable {S:Nat->Spc}{σ:Sg}{H:ab}
theorem LW{c:COp}{K a:D->Prop}(hk:∀d,K d->a d)(h:ak c σ H K):ak c σ H a:=by
 obtain⟨pre,out,b⟩:=qaa c σ H;grind
theorem OA{n:Nat}{d:D}{K a:List D->Prop}(hk:∀l,K l->a l)(h:mQ n d H K):mQ n d H a:=by
 unfold mQ at h ⊢;split at h<;>(try simp only at h ⊢)
 grind;grind;grind;grind
def qf3{n:Nat}{d:D}{K a:List D->Prop}(hk:∀l,K l->a l)(h:uP n d H K):uP n d H a:=by
 unfold uP at h ⊢;grind [OA]
def qcS{o:MOp}{ds:List D}{dst:Option Nat}{K a:D->ab->Prop}(hk:∀d H,K d H->a d H)(h:iR o ds dst H K):iR o ds dst H a:=by
 have rd:Dd o ds H (λd=>K d H)->Dd o ds H (λd=>a d H):=λh=>by
  obtain⟨p,q,b⟩:=qeO o ds H;grind
 unfold iR at h ⊢;split at h;grind
 ·split at h;grind [Yx];omega
 ·split at h
  ·split at h;grind;grind
   ·unfold LV at h ⊢;grind
   omega
  omega
 ·refine⟨h.1,?_⟩;have h:=h.2;split at h;grind
  ·refine⟨h.1,?_⟩;have h:=h.2;unfold L5 at h ⊢;grind
  omega
 ·split at h;grind [TG];omega
 grind
theorem qgn{c:COp}{dst:Option Nat}{K j:D->ab->Prop}(hk:∀d H,K d H->j d H)(h:bj c dst σ H K):bj c dst σ H j:=by
 by_cases a:c.isRead=true
 ·have e:∀K,bj c dst σ H K=ak c σ H λd=>K d H:=by
   intro K;cases c<;>first|rfl|(simp[COp.isRead]at a;done)|skip
   ·rename_i im x;cases im<;>first|rfl|grind [COp.isRead]
   ·rename_i k xs;cases k<;>first|(simp[COp.isRead,MOp.isRead]at a;done)|rfl
  grind [LW]
 ·cases c
  case alloc el z=>
   simp only[bj]at h ⊢;grind
  case box el im x=>
   cases im with
   |true=>exact absurd rfl a
   | false=>
     simp only[bj]at h ⊢;grind
  case tbx el x=>
   simp only[bj]at h ⊢;grind
  case nslice el n=>
   simp only[bj]at h ⊢;grind
  case mslice el n p=>
   simp only[bj]at h ⊢;grind
  case mkslice el n b agg z l c=>
   simp only[bj]at h ⊢;grind
  case store rt sz x y=>
   simp only[bj]at h ⊢;grind
  case srange x=>
   simp only[bj]at h ⊢;grind
  case snext x=>
   simp only[bj]at h ⊢;split at h;grind;omega
  case append rt el n b x y=>
   simp only[bj]at h ⊢;refine qf3 (λl h=>?_) h;split at h;grind;grind;grind;omega
  case appmk el n b agg z x c=>
   simp only[bj]at h ⊢;grind
  case clear n agg z x=>
   simp only[bj]at h ⊢;grind
  case copy n x y=>
   simp only[bj]at h ⊢;refine OA (λl h=>?_) h;split at h
   ·split at h
    ·exact⟨h.1,h.2.1,hk _ _ h.2.2⟩
    ·exact h.elim
   ·split at h
    ·exact⟨h.1,h.2.1,h.2.2.1,hk _ _ h.2.2.2⟩
    ·exact h.elim
   ·exact h.elim
  case m k xs=>exact qcS hk h
  case call f xs=>exact h.elim
  case callv f xs=>exact h.elim
  case callb r f xs=>exact h.elim
  all_goals exact absurd rfl a
def qa5{c:COp}{dst:Option Nat}{K a:D->ab->Prop}(hk:∀d H,K d H->a d H)(h:aI S c dst σ H K):aI S c dst σ H a:=by
 cases c
 case call f args=>exact(S f).mono _ _ _ _ _ hk h
 case callb r f args=>exact(S f).mono _ _ _ _ _ hk h
 case callv f args=>
  simp only[aI]at h ⊢;split at h
  ·exact(S _).mono _ _ _ _ _ hk h
  omega
 all_goals grind [aI,qgn]
theorem K3:∀(cs:List D) (H:ab) {K a:List D->ab->Prop},(∀cs H,K cs H->a cs H)->K4 cs H K->K4 cs H a
 | [],H,K,a,hk,h=>hk _ _ h
 | c::cs,H,K,a,hk,h=>by
   have other:K4 cs H (λcs' H'=>K (c::cs') H')->K4 cs H (λcs' H'=>a (c::cs') H'):=λh=>K3 cs H (λ_ _ h=>hk _ _ h) h
   cases c
   case own id x=>
    simp only[K4]at h ⊢;split at h
    ·exact⟨h.1,K3 cs _ (λ_ _ h=>hk _ _ h) h.2⟩
    omega
   all_goals exact other h
def qc9{t n:Nat}{K a:Sg->ab->Prop}(hk:∀σ H,K σ H->a σ H)(h:Md t n σ H K):Md t n σ H a:=by
 unfold Md at h ⊢;split at h<;>(try simp only at h ⊢)
 grind;grind;grind;grind;grind [K3];grind
def IU{g:Option (Nat×Bool)}{b no a c:Sg->Prop}(h1:∀σ,b σ->a σ)(h2:∀σ,no σ->c σ)(h:nl g σ b no):nl g σ a c:=by
 unfold nl at h ⊢;split at h<;>(try simp only at h ⊢)
 grind;grind
theorem Cr:∀(l:List CI) (σ:Sg) (H:ab) {K a:Sg->ab->Prop},(∀σ H,K σ H->a σ H)->FH S l σ H K->FH S l σ H a
 | [],σ,H,K,a,hk,h=>hk _ _ h
 | .frz t n::r,σ,H,K,a,hk,h=>qc9 (λσ H h=>Cr r σ H hk h) h
 | .op dst g c::r,σ,H,K,a,hk,h=>IU (λσ h=>qa5 (λd H h=>Cr r _ H hk h) h) (λσ h=>Cr r _ H hk h) h
def qcH{c:COp}{dst:Option Nat}{Hr:ab}{K a:D->ab->Prop}(hk:∀d H,K d H->a d H)(h:aw S c dst σ Hr H K):aw S c dst σ Hr H a:=by
 obtain⟨pre,out,b⟩:=PP S c dst σ Hr (zl H (c.wid dst));grind
theorem zS:∀(l:List CI) (σ:Sg) (Hr H:ab) {K a:Sg->ab->Prop},(∀σ H,K σ H->a σ H)->kG S l σ Hr H K->kG S l σ Hr H a
 | [],σ,Hr,H,K,a,hk,h=>hk _ _ h
 | .frz t n::r,σ,Hr,H,K,a,hk,h=>zS r σ (bO r Hr) H hk h
 | .op dst g c::r,σ,Hr,H,K,a,hk,h=>IU (λσ h=>qcH (λd H h=>zS r _ Hr H hk h) h) (λσ h=>zS r _ Hr H hk h) h
theorem zR(c:CC):∀{K d:Ex->Sg->ab->Prop} (σ:Sg) (H:ab),(∀e σ H,K e σ H->d e σ H)->vc S c K σ H->vc S c d σ H:=by
 induction c with
 |skip=>grind [vc]
 |reg l=>grind [vc,Cr]
 |regd p t=>grind [vc,zS,Cr]
 | seq a b j q=>
   grind [vc]
 | ite c a b j q=>
   intro K d σ H hk h;simp only[vc]at h ⊢;grind
 | block id b r=>
   intro K d σ H hk h;simp only[vc]at h ⊢;grind
 | loop k b r=>
   grind [vc]
 |exit id=>grind [vc]
 |ret=>grind [vc]
 | cut k c r=>
   grind [vc]
 |keep ls lh c r=>grind [vc]
end
variable {dq:Prop}
inductive ai where
 |tmp (t:Nat)
 |cell (t:Nat) (agg:Bool) (sz:Nat)
def fD(P:Program):ResultVar->Option ai
 | .tmp t=>some (.tmp t)
 | .cell t ty=>do
   let agg <-gS P ty
   let sz <-cx P ty
   if agg||sz=1 then some (.cell t agg sz)else none
def zi:List ai->Sg->ab->(List D->Prop)->Prop
 | [],_,_,K=>K []
 | .tmp t::r,a,H,K=>zi r a H λds=>K (a t::ds)
 | .cell t agg sz::r,a,H,K=>ak (.load agg sz (.tmp t)) a H λd=>zi r a H λds=>K (d::ds)
def dP:List D->D
 | [d]=>d
 |ds=> .tup ds
def wC(rs:List ai)(K:D->ab->Prop):Ex->Sg->ab->Prop
 | .norm,a,H=>zi rs a H λds=>K (dP ds) H
 | .ret,a,H=>zi rs a H λds=>K (dP ds) H
 | .ex _,_,_=>False
def Ij(tmps:Array Value):ResultVar->Sem Value
 | .tmp t=>pure (tmps.getD t undef)
 | .cell t ty=>do loadVar ty (<-asAddr (tmps.getD t undef))
theorem qcB(fn:Func)(tmps:Array Value):results fn tmps=(do
 let vs <-fn.results.mapM (Ij tmps)
 return if h:vs.size=1 then vs[0]else .tuple vs):=by
 rfl
inductive FrzTo (H:ab):D->D->Prop
 |same (d:D):FrzTo H d d
 |any (d:D):FrzTo H d .any
 |nil (n:Nat):FrzTo H (.v (.slice none 0 0)) (.list n [])
 |own (i j:Nat) (x:Value):FrzTo H (.own i x) (.own j x)
 |nilown (j:Nat):FrzTo H (.v (.slice none 0 0)) (.own j (.slice none 0 0))
 |bptr (i j b off:Nat):FrzTo H (.bptr i b off) (.bptr j b off)
 | row {id:Nat} {x:Value} {el n:Nat} {es es':List D} (h:H id=some (.row x el n es)) (hl:es.length=es'.length) (hk:∀d∈es',d.kn=true/\d.cells.length=n)
    (he:∀(k:Nat) (c c':D),es[k]? =some c->es'[k]? =some c'->FrzTo H c c'):FrzTo H (.own id x) (.list n es')
 | sub {id:Nat} {x:Value} {el n lo hi:Nat} {es es':List D} (h:H id=some (.row x el n es)) (hl:((es.take hi).drop lo).length=es'.length) (hk:∀d∈es',d.kn=true/\d.cells.length=n)
    (he:∀(k:Nat) (c c':D),((es.take hi).drop lo)[k]? =some c->es'[k]? =some c'->FrzTo H c c'):FrzTo H (.sub id x n lo hi) (.list n es')
 | list {n:Nat} {es es':List D} (hl:es.length=es'.length) (hk:∀d∈es',d.kn=true/\d.cells.length=n)
    (he:∀(k:Nat) (c c':D),es[k]? =some c->es'[k]? =some c'->FrzTo H c c'):FrzTo H (.list n es) (.list n es')
 |box {id b off:Nat} {cs:List D} (h:H id=some (.box b cs)):FrzTo H (.bptr id b off) (.cptr cs off)
 |agg {cs cs':List D} (hl:cs.length=cs'.length) (h:∀(k:Nat) (c c':D),cs[k]? =some c->cs'[k]? =some c'->FrzTo H c c'):FrzTo H (.agg cs) (.agg cs')
 |tup {cs cs':List D} (hl:cs.length=cs'.length) (h:∀(k:Nat) (c c':D),cs[k]? =some c->cs'[k]? =some c'->FrzTo H c c'):FrzTo H (.tup cs) (.tup cs')
 |clo {f:Nat} {cs cs':List D} (hl:cs.length=cs'.length) (h:∀(k:Nat) (c c':D),cs[k]? =some c->cs'[k]? =some c'->FrzTo H c c'):FrzTo H (.clo f cs) (.clo f cs')
 |nomp:FrzTo H (.v (.map none)) (.mp [])
 |mrow {id:Nat} {x:Value} {es es':List D} (h:H id=some (.mrow x es)) (hl:es.length=es'.length) (he:∀(k:Nat) (c c':D),es[k]? =some c->es'[k]? =some c'->FrzTo H c c'):FrzTo H (.own id x) (.mp es')
 |mp {es es':List D} (hl:es.length=es'.length) (he:∀(k:Nat) (c c':D),es[k]? =some c->es'[k]? =some c'->FrzTo H c c'):FrzTo H (.mp es) (.mp es')
def dm:ab:=λ_=>none
def LeL(ds a:List D):Prop:=ds.length=a.length/\∀(k:Nat) (d b:D),ds[k]? =some d->a[k]? =some b->FrzTo dm d b
def dI(ds:List D):Sg:=λt=>(ds[t]?).getD .any
section
variable {P:Program}{im:List Nat}{E:BU}{S:Nat->Spc}
theorem OZ{tp I:Nat->Prop}{w:World}{el n:Nat}{x:Value}{es:List D}(hI:∀b,x.ownBlock=some b->I b)(h:ResOk (R tp I w) w (.row x el n es)):R tp I w x (.list n es):=by
 let ⟨xs,⟨C,r⟩,l,p⟩:=h
 have s:=ba (es:=es) (λd t=>(l d t).2);rcases r with⟨rfl,h0⟩|⟨g,cap,cur,rfl,_,q,u,A,F,J⟩
 ·have:es=[]:=qGk h0;subst this;exact .nolist _ _ _
 ·have hcell:∀(k:Nat) (c:D),(bq es)[k]? =some c->∃y,xs[k]? =some y/\w.cell? ⟨g,0+k,none⟩=some y/\y.oneCell'=true/\R tp I w y c:=by
   intro k c hk;have a:k<xs.length:=by
    grind
   have j:xs[k]? =some xs[k]:=qF6 a;refine⟨xs[k],j,?_,(p k _ c j hk).1,(p k _ c j hk).2⟩;rw[qGS,cell_of_row w g k cur el (0,0) q];grind
  refine .list g 0 cap n es (λk=>xs.getD k undef) (hI g rfl) u A (λ_=>⟨_,_,q⟩) l (λk c hk=>?_) (λk c hk=>?_) (λk c hk=>?_)
  all_goals grind
theorem PM{tp I:Nat->Prop}{w:World}{n:Nat}{es es':List D}(hl:es.length=es'.length)(hk:∀d∈es',d.kn=true/\d.cells.length=n)
 (ih:∀(k:Nat) (c c':D),es[k]? =some c->es'[k]? =some c'->∀{x:Value},R tp I w x c->R tp I w x c') {x:Value} (hr:R tp I w x (.list n es)):R tp I w x (.list n es'):=by
 cases hr with
 | nolist a cap _=>
   have:es'=[]:=qGk (by grind);subst this;exact .nolist _ _ _
 | list b off cap _ _ f hI hc hm hz hn hcell h1 h=>
   have key:∀(k:Nat) (c':D),(bq es')[k]? =some c'->∃c,(bq es)[k]? =some c/\R tp I w (f k) c':=by
    intro k c' hc';have hfl':=ba (es:=es') (λd s=>(hk d s).2);have Q:0<n:=by
     grind
    have hi:k/n<es'.length:=qH0 (by grind);have t:k % n<n:=qHu _ Q;have U:k/n*n+k % n=k:=by grind [D.kn,Nat.div_add_mod]
    have F:k/n<es.length:=by lia
    have g1:=ij (es:=es) (λd s=>(hn d s).2) (i:=k/n) (j:=k % n) t;have g2:=ij (es:=es') (λd s=>(hk d s).2) (i:=k/n) (j:=k % n) t;rw[qF6 hi]at g2;simp[qGt]at g1 g2;have u:=hn _ (qHE F);have r:=hk _ (qHE hi);have hjl:k % n<es[k/n].cells.length:=by lia
    have hjl':k % n<es'[k/n].cells.length:=by lia
    refine⟨es[k/n].cells[k % n],by grind,?_⟩;have A:es'[k/n].cells[k % n]? =some c':=by grind
    have J:= @ih (k/n) es[k/n] es'[k/n] (qF6 F) (qF6 hi);have l:∀j,j<n->∀c,es[k/n].cells[j]? =some c->(f (k/n*n+j)).oneCell'=true/\R tp I w (f (k/n*n+j)) c:=by
     grind [ij]
    by_cases p:∃cs,es[k/n]= .agg cs
    ·let ⟨cs,p⟩:=p
     have K:cs.length=n:=by have:=u.2;rw[p]at this;exact this
     have L:R tp I w (.agg ((List.range n).map λj=>f (k/n*n+j)).toArray) (.agg cs):=by
      refine .agg _ _ (by simp[K]) (λy C=>?_) (λj y c C hc=>?_)
      ·obtain⟨j,t,rfl⟩:=qGd.1 C;have t:=qHC.1 t;have W:j<cs.length:=by lia
       exact(l j t cs[j] (by rw[p];exact qF6 W)).1
      ·have M:j<n:=by rw[<-K];exact(qF4.1 hc).1
       rw[qGn,qIh M]at C;cases C;exact(l j M c (by rw[p];exact hc)).2
     rw[<-p]at L;have Y:=(J L).cells r.1;have:=(Y.2 (k % n) (f (k/n*n+k % n)) c' (by simp[Value.cells,t]) A).2;rw[U]at this;exact this
    ·have q:es[k/n].cells=[es[k/n]]:=by
      have:=u.1;cases s:es[k/n] <;>first|rfl|(rw[s]at p;exact absurd ⟨_,rfl⟩ p)
     have Z:n=1:=by have:=u.2;rw[q]at this;simpa using this.symm
     subst Z;have hj0:k % 1=0:=Nat.mod_one k;have L:=(l 0 (by lia) es[k/1] (by rw[q];rfl))
     have Y:=(J L.2).cells r.1;have N:(f (k/1*1+0)).cells= #[f (k/1*1+0)]:=by
      have:=L.1;revert this;generalize f (k/1*1+0)=y;intro C;cases y<;>first|rfl|(simp[Value.oneCell']at C)
     have:=(Y.2 0 (f (k/1*1+0)) c' (by rw[N];rfl) (by rw[hj0]at A;exact A)).2;simpa using this
   rw[hl];refine .list b off cap n es' f hI (by lia) hm hz hk (λk c O=>?_) (λk c O=>?_) (λk c O=>?_);grind;grind;grind
theorem qj8{tp I:Nat->Prop}{w:World}{id n lo hi:Nat}{x q:Value}{es:List D}{h:Nat->Prop}(hl:R tp I w x (.list n es))(j:R tp h w q (.sub id x n lo hi)):R tp I w q (.list n ((es.take hi).drop lo)):=by
 cases j with
 | subnil=>
   have:((es.take 0).drop 0)=[]:=by simp
   exact .nolist _ _ _
 | sub _ b len cap _ _ _ p h1 h2 h3 hm hp=>
   cases hl with
   | nolist _ _ _=>
     have c:hi -lo=0:=by lia
     rw[c,qH5,qHT];exact .nolist _ _ _
   | list _ _ _ _ _ f hI hc d hz hn hcell a k=>
     by_cases l:lo<cap\/lo=0
     ·have:=PO hI hc d hz hn hcell a k h1 h2;grind
     ·have c:hi -lo=0:=by lia
      have r:(es.take hi).drop lo=[]:=by
       grind
      rw[c,r];exact .nolist _ _ _
theorem FrzTo.R{tp I t:Nat->Prop}{w:World}{H Hf:ab}{d F:D}(h:FrzTo Hf d F)(J:∀i r,Hf i=some r->ResOk (R tp I w) w r)(hI:∀b,I b->t b)
 (hb:∀i r b,Hf i=some r->r.blk=some b->t b):∀{x:Value},Gv.R tp I w x d->Gv.R tp t w x F:=by
 have mv:∀x e,Gv.R tp I w x e->Gv.R tp t w x e:=λx e a=>a.mono (λ_ h=>h) (λb hb=>⟨hI b hb,rfl⟩) (λb _=> .refl _ _)
 have l:∀i r,Hf i=some r->ResOk (Gv.R tp t w) w r:=λi r h=>(J i r h).conv mv (λ_ _=>rfl)
 suffices ∀{x:Value},Gv.R tp t w x d->Gv.R tp t w x F fromλ{x} a=>this (mv x _ a)
 induction h with
 |same d=>simp
 |any d=>exactλ_=> .any _
 | nil n=>
   intro x a;cases a;exact .nolist _ _ _
 | own i j x=>
   intro x a;cases a with
   |own _ _ h1=>exact .own _ _ h1
 | nilown j=>
   intro x a;cases a;exact .own _ _ rfl
 | bptr i j b off=>
   intro x a;cases a;exact .bptr _ _ _
 | @row id y el n es es' h hl hk he s=>
   intro x a;cases a;exact PM hl hk (λk c c' h1 h2=>s k c c' h1 h2) (OZ (λb u=>hb _ _ b h u) (l _ _ h))
 | @sub id y el n lo up es es' h hl hk he s=>
   intro x a;refine PM hl hk (λk c c' h1 h2=>s k c c' h1 h2) (qj8 ?_ a);exact OZ (λb u=>hb _ _ b h u) (l _ _ h)
 | @list n es es' hl hk he s=>
   grind [PM]
 | @box id b off cs h=>
   intro x a;cases a
   let ⟨xs,el,A,K,C⟩:=l _ _ h
   let ⟨f,Q,U,W⟩:=zJ A K C
   have:=Gv.R.cptr (tp:=tp) b 0 cs off f (hb _ _ b h rfl) (λ_=>⟨_,_,A⟩) Q U W;grind
 | @agg cs cs' hl h s=>
   intro x a;cases a with
   | agg xs _ p h1 N=>
     refine .agg xs cs' (p.trans hl) h1 (λk y c O hc=>?_);grind
 | @tup cs cs' hl h s=>
   intro x a;cases a with
   | tup xs _ p N=>
     refine .tup xs cs' (p.trans hl) (λk y c O hc=>?_);grind
 | @clo f cs cs' hl h s=>
   intro x a;cases a with
   | clo _ xs _ p N=>
     refine .clo f xs cs' (p.trans hl) (λk y c O hc=>?_);grind
 | nomp=>
   intro x a;have:=a.inv_v;subst this;exact .nomp
 | @mrow id y es es' h hl he s=>
   intro x a;cases a;obtain⟨b,q,clock,rfl,A,K,C⟩:=l _ _ h;refine .mp b q clock es' (hb _ _ b h rfl) A (C.1.trans hl) K (λk e c he hc=>?_);have hk:k<es.length:=by grind
   exact s k es[k] c (qF6 hk) hc (C.2 k e _ he (qF6 hk))
 | @mp es es' hl he s=>
   intro x a;cases a with
   | nomp=>
     have:es'=[]:=qGW.1 (by grind);subst this;exact .nomp
   | mp b q clock _ hI hh L M h=>
     refine .mp b q clock es' hI hh (L.trans hl) M (λk e c he hc=>?_);grind
theorem FZ{tp I:Nat->Prop}{w:World}{a:Act}{σ:Sg}{H:ab}(hr:∀t,R tp I w (a.tmps.getD t undef) (σ t))(hsat:∀i r,H i=some r->ResOk (R tp I w) w r):
 ∀ (rvs:List ResultVar) (rs:List ai) (K:List D->Prop),rvs.mapM (fD P)=some rs->zi rs σ H K->
  ∃ (vs:List Value) (ds:List D),(rvs.mapM (Ij a.tmps)).run P w= .ok vs w/\vs.length=ds.length/\
   (∀(k:Nat) (x:Value) (d:D),vs[k]? =some x->ds[k]? =some d->R tp I w x d)/\K ds
 | [],rs,K,hc,hv=>by
   simp at hc;subst hc;exact⟨[], [],by simp,rfl,λk x d h=>by simp,hv⟩
 | .tmp t::rvs,rs,K,hc,hv=>by
   rw[qGM]at hc;simp only[qF5,qF3]at hc
   let ⟨x,hx,y,hy,hc⟩:=hc
   cases hx;cases hc
   let ⟨vs,ds,h1,h2,h3,h4⟩:=FZ hr hsat rvs y _ hy hv
   refine⟨a.tmps.getD t undef::vs,σ t::ds,?_,by grind,λk x d hx hd=>?_,h4⟩;grind [Sem.run_bind,Ij,Sem.run_pure,Result.andThen_ok];grind
 | .cell t ty::rvs,rs,K,hc,hv=>by
   rw[qGM]at hc;simp only[fD,qF5,qF3]at hc
   let ⟨x,⟨agg,ha,sz,hs,hx⟩,y,hy,hc⟩:=hc
   split at hx
   ·cases hx;cases hc;simp[zi]at hv
    have hg := Tx (P := P) (o := { dst := none, op := .load ty (.tmp t), type := 0, pos := "", after := #[], guard := none }) (a := a) rfl ha hs (by lia) (hr t) (fun _ _ h => h) hsat hv
    let ⟨v,d,hrun,hR,hk⟩:=hg
    let ⟨vs,ds,h1,h2,h3,h4⟩:=FZ hr hsat rvs y _ hy hk
    have hrun':(do loadVar ty (<-asAddr (a.tmps.getD t undef)):Sem Value).run P w= .ok v w:=by
     simp only[execOp,Act.eval,Instr.loadAt]at hrun;generalize a.tmps.getD t undef=q at*;cases q with
     | pointer p=>
       cases p with
       | some ad=>
         simp[Instr.sureAddr,asAddr,qGs,qGy,qGj]at hrun ⊢;generalize (loadVar ty ad).run P w=r at*;cases r<;>simp_all
       |none=>simp_all [Instr.sureAddr]
     | _=>simp_all [Instr.sureAddr]
    refine⟨v::vs,d::ds,?_,by grind,λk x e hx he=>?_,h4⟩
    ·rw[qGM];rw[qGs];rw[show Sem.run P (Ij a.tmps (ResultVar.cell t ty)) w= .ok v w from hrun'];simp_all
    grind
   grind
theorem rR{fn:Func}{rs:List ai}(hc:fn.results.toList.mapM (fD P)=some rs){tp I:Nat->Prop}{w:World}{a:Act}{j:Sg}{H:ab}(l:∀t,R tp I w (a.tmps.getD t undef) (j t))(b:∀i r,H i=some r->ResOk (R tp I w) w r)
 {K:D->Prop} (p:zi rs j H λds=>K (dP ds)):∃v d,(results fn a.tmps).run P w= .ok v w/\R tp I w v d/\K d:=by
 let ⟨vs,ds,h1,h2,h3,h4⟩:=FZ l b fn.results.toList rs _ hc p
 have hm:(fn.results.mapM (Ij a.tmps)).run P w= .ok vs.toArray w:=by
  grind [Array.mapM_eq_mapM_toList,Sem.run_map,Result.andThen_ok]
 refine⟨if h:vs.toArray.size=1 then vs.toArray[0]else .tuple vs.toArray,dP ds,?_,?_,h4⟩;grind [qcB,Sem.run_bind,Result.andThen_ok,Sem.run_pure]
 ·match vs,ds,h2 with
  | [v], [d],_=>exact h3 0 v d rfl rfl
  | [], [],_=>exact .tup [] [] rfl (λk x c h=>by simp)
  |v1::q::vs,s::u::ds,hl=>exact .tup _ _ hl h3
theorem qcd{z:List PanicEntry->Prop}{f:Nat}{fn:Func}{code:Code}{cc:CC}{rs:List ai}{A:PT}(hqu:IG dq P z S cc)(hmix:P.follows .mixedOrders=true)(hf:P.funcs[f]? =some fn)(hb:fn.body=some code)(hce:dH P f){N:Nat}(hN:fn.ntmps=N)
 (hcc:aG P im N code=some (bI cc)) (hrs:fn.results.toList.mapM (fD P)=some rs)
 (hA:∀ (ds:List D) (H:ab) (d:Nat) (K:D->ab->Prop),A d ds H K->ds.length<=N/\
   ∃ (Y:List D) (M:ab) (ι:Nat->Nat),LeL ds Y/\(∀i r,M i=some r->H (ι i)=some r)/\(∀i j r s,M i=some r->M j=some s->ι i=ι j->i=j)/\
    ∃Q:D->ab->Prop,vc S cc (wC rs Q) (dI Y) M/\∀r H',Q r H'->∃(r':D) (Hf Hc:ab) (κ:Nat->Option Nat),FrzTo Hf r r'/\(∀j q,Hf j=some q->H' j=some q/\∀i,κ i≠some j)/\K r' Hc/\
     (∀i s,Hc i=some s->match κ i with|some j=>H' j=some s|none=>H i=some s/\∀k q,M k=some q->ι k≠i)/\
     (∀i j k s q,Hc i=some s->Hc j=some q->κ i=some k->κ j=some k->i=j)):TriZ dq z P f A:=by
 intro O tp w vs ds H d K hO htl u hlen hargs hAK;refine⟨hce,?_⟩
 let ⟨hdN,Y,M,ι,hle,C,hinj,Q,hv,hQ⟩:=hA ds H d K hAK
 let W:Nat->Prop:=λi=>∃k q,M k=some q/\ι k=i
 let rest:Nat->Prop:=λb=>∃i r,H i=some r/\ ¬W i/\r.blk=some b
 let E:BU:={ O:=λb=>O b\/rest b,tp0:=tp,w0:=w,own0:=bG M,N:=N,dq:=dq }
 have y:∀b,bG M b->bG H b:=λb ⟨i,r,h1,h2⟩=>⟨ι i,r,C i r h1,h2⟩
 have Z:∀b,rest b->b<w.heap.size:=λb ⟨i,r,h1,_,h2⟩=>(u.ok i r h1).lt h2
 have I:∀b,rest b->¬bG M b:=λb ⟨i,r,h1,h2,h3⟩ ⟨j,s,h4,h5⟩=>h2 ⟨j,s,h4,(u.dis i (ι j) r s b h1 (C j s h4) h3 h5).symm⟩
 have himm:∀b,be O tp H w b->be E.O tp M w b:=λb hb=>⟨hb.1,λh=>h.elim hb.2.1 (λ⟨i,r,h1,_,h2⟩=>hb.2.2.2 ⟨i,r,h1,h2⟩),hb.2.2.1,λh=>hb.2.2.2 (y b h)⟩
 have hmove:∀x e,R tp (be O tp H w) w x e->R tp (be E.O tp M w) w x e:=λx e hr=>hr.mono (λ_ h=>h) (λb hb=>⟨himm b hb,rfl⟩) (λb _=> .refl _ _)
 have hstw:StW E tp M w:=by
  refine⟨λb hb=>hb.elim (hO b) (Z b),λb h=>h,λb h=> .inl h,⟨htl.1,htl.2.mono (λ_ h=>h) y⟩, .refl _ _ _,λb hb=> .inl hb,⟨λi j r s b h1 h2 h3 h4=>?_,λi r b h1 h2=>⟨λh=>?_,?_⟩,λi r h1=>?_⟩⟩
  ·exact hinj i j r s h1 h2 (u.dis _ _ r s b (C i r h1) (C j s h2) h3 h4)
  ·rcases h with h|h
   ·exact(u.out _ r b (C i r h1) h2).1 h
   ·exact I b h ⟨i,r,h1,h2⟩
  ·exact(u.out _ r b (C i r h1) h2).2
  ·exact(u.ok _ r (C i r h1)).conv hmove (λ_ _=>rfl)
 have hst:St E (dI Y) M { tmps:=vs.toArray++Array.replicate (fn.ntmps -vs.toArray.size) undef,defers:=[] } w:=by
  refine⟨rfl,?_,tp,hstw,λt=>?_⟩
  ·show(vs.toArray++Array.replicate (fn.ntmps -vs.toArray.size) undef).size=N;simp;lia
  ·unfold dI;cases hd:Y[t]? with
   |none=>exact .any _
   | some e'=>
     have hlt:t<vs.length:=by rw[hlen,hle.1];exact(qF4.1 hd).1
     have hlt':t<ds.length:=by rw[<-hlen];exact hlt
     have hg:(vs.toArray++Array.replicate (fn.ntmps -vs.toArray.size) undef).getD t undef=vs[t]:=by
      rw[qGL,qGX (by simpa using hlt)];simp[hlt]
     simp only[qGJ,hg];have he:=qF6 hlt';exact(hle.2 t _ e' he hd).R (H:=dm) (λi r h=>by cases h) (λ_ h=>h) (λi r b h=>by cases h) (hmove _ _ (hargs t _ _ (by simp[hlt]) he))
 have hwp:=Ss hmix cc hqu code (by exact hcc) _ _ _ _ w hst hv;refine calls_of_wp hf hb (qHm ?_ hwp);have tD:∀a' w' J H',St E J H' a' w'->(zi rs J H' λds=>Q (dP ds) H')->
  a'.defers=[]/\∃v,(results fn a'.tmps).run P w'= .ok v w'/\qdM dq O tp H w K (.returned v) w':=by
  intro a' w' J H' hst' hres
  let ⟨hd',hN',U,p,hr'⟩:=hst'
  let ⟨v,r0,hrun,hR,hq⟩:=rR (K:=λr=>Q r H') hrs hr' p.sat.ok hres
  let ⟨r,Hf,Hc,κ,hfz,hHf,hK,hκ,hκi⟩:=hQ r0 H' hq
  refine⟨hd',v,hrun,v,r,Hc,U,rfl,hK,p.tpx,p.tpn,p.tpl.1,?_,?_,?_,?_⟩
  ·-- the step
   have hs:=p.step;exact⟨hs.os,hs.tape,hs.output,hs.size,λb hb ho ht=>hs.same b hb (λh=>ho (y b h)) ht,hs.tapes,hs.drawn⟩
  all_goals
   have L:∀i s,Hc i=some s->(∃j,κ i=some j/\H' j=some s)\/(κ i=none/\H i=some s/\ ¬W i):=λi s hi=>by
    have:=hκ i s hi;cases hk:κ i with
    |some j=>rw[hk]at this;exact .inl ⟨j,rfl,this⟩
    |none=>rw[hk]at this;exact .inr ⟨rfl,this.1,λ⟨k,q,h1,h2⟩=>this.2 k q h1 h2⟩
  ·intro b ⟨i,s,h1,h2⟩;rcases L i s h1 with⟨j,_,h3⟩|⟨_,h3,_⟩
   ·rcases p.loc b ⟨j,s,h3,h2⟩with h4|h4
    ·exact .inl (y b h4)
    ·exact .inr h4
   ·exact .inl ⟨i,s,h3,h2⟩
  all_goals
   have hownc:∀b,bG Hc b->bG H' b\/rest b:=λb ⟨i,s,h1,h2⟩=>by
    rcases L i s h1 with⟨j,_,h3⟩|⟨_,h3,h4⟩
    ·exact .inl ⟨j,s,h3,h2⟩
    ·exact .inr ⟨i,s,h3,h4,h2⟩
   have himmc:∀b,be E.O U H' w' b->be O U Hc w' b:=λb hb=>⟨hb.1,λh=>hb.2.1 (.inl h),hb.2.2.1,λh=>by
    rcases hownc b h with h|h
    ·exact hb.2.2.2 h
    ·exact hb.2.1 (.inr h)⟩
   have hmovec:∀x e,R U (be E.O U H' w') w' x e->R U (be O U Hc w') w' x e:=λx e hr=>hr.mono (λ_ h=>h) (λb hb=>⟨himmc b hb,rfl⟩) (λb _=> .refl _ _)
  ·refine⟨λi j s q b h1 h2 h3 h4=>?_,λi s b h1 h2=>?_,λi s h1=>?_⟩
   ·rcases L i s h1 with⟨i',e1,F⟩|⟨e1,F,p1⟩
    ·rcases L j q h2 with⟨j',e2,k2⟩|⟨e2,k2,p2⟩
     ·have:=p.sat.dis i' j' s q b F k2 h3 h4;subst this;exact hκi i j i' s q h1 h2 e1 e2
     ·exact absurd (Or.inr ⟨j,q,k2,p2,h4⟩) (p.sat.out i' s b F h3).1
    ·rcases L j q h2 with⟨j',e2,k2⟩|⟨e2,k2,p2⟩
     ·exact absurd (Or.inr ⟨i,s,F,p1,h3⟩) (p.sat.out j' q b k2 h4).1
     ·exact u.dis i j s q b F k2 h3 h4
   ·rcases L i s h1 with⟨i',e1,F⟩|⟨e1,F,p1⟩
    ·have:=p.sat.out i' s b F h2;exact⟨λh=>this.1 (.inl h),this.2⟩
    ·have h3:=u.out i s b F h2;refine⟨h3.1,λh=>?_⟩;rcases p.tpn b h with h4|h4
     ·exact h3.2 h4
     ·have:=(u.ok i s F).lt h2;have h4':w.heap.size<=b:=h4;lia
   ·rcases L i s h1 with⟨i',e1,F⟩|⟨e1,F,p1⟩
    ·exact(p.sat.ok i' s F).conv hmovec (λ_ _=>rfl)
    ·-- a resource that was not handed in is as it was
     have hs:=p.step;have hsame:∀b,b<w.heap.size->¬bG M b->¬tp b->w'.heap[b]? =w.heap[b]?:=hs.same;refine(u.ok i s F).conv (λx e hr=>?_) (λb hb=>hsame b ((u.ok i s F).lt hb) (I b ⟨i,s,F,p1,hb⟩) (u.out i s b F hb).2);refine hr.mono p.tpx (λb hb=>?_) hs.tapes;have h0:¬bG M b:=λh=>hb.2.2.2 (y b h)
     have hsz:w.heap.size<=w'.heap.size:=hs.size;have hbl:b<w.heap.size:=hb.1;refine⟨⟨by lia,hb.2.1,λh=>?_,λh=>?_⟩,hsame b hb.1 h0 hb.2.2.1⟩
     ·rcases p.tpn b h with h4|h4
      ·exact hb.2.2.1 h4
      ·have h4':w.heap.size<=b:=h4;lia
     ·rcases hownc b h with h|h
      ·rcases p.loc b h with h4|h4
       ·exact h0 h4
       ·have h4':w.heap.size<=b:=h4;lia
      ·let ⟨j,q,h5,_,h6⟩:=h
       exact hb.2.2.2 ⟨j,q,h5,h6⟩
  ·refine hfz.R (H:=dm) (λi q hi=>p.sat.ok i q (hHf i q hi).1) himmc (λi q b hi hb=>?_) hR
   let ⟨hi',hne⟩:=hHf i q hi
   have ho:=p.sat.out i q b hi' hb;refine⟨(p.sat.ok i q hi').lt hb,λh=>ho.1 (.inl h),ho.2,λ⟨j,s,h1,h2⟩=>?_⟩;rcases L j s h1 with⟨j',e1,F⟩|⟨e1,F,p1⟩
   ·have:=p.sat.dis i j' q s b hi' F hb h2;subst this;exact hne j e1
   ·exact ho.1 (.inr ⟨j,s,F,p1,h2⟩)
 intro e a' w' hp;cases e with
 | normal=>
   let ⟨J,H',hs,hk⟩:=hp
   let ⟨h1,v,h2,h3⟩:=tD a' w' J H' hs hk
   exact⟨h1,v,h2, .inl h3⟩
 | ret=>
   let ⟨J,H',hs,hk⟩:=hp
   let ⟨h1,v,h2,h3⟩:=tD a' w' J H' hs hk
   exact⟨h1,v,h2, .inl h3⟩
 | exit i=>
   let ⟨J,H',hs,hk⟩:=hp
   exact hk.elim
 |goto l=>exact hp.elim
 | panic c=>
   have hs:=hp.2.2;exact⟨hp.1, .inr ⟨c,rfl,hp.2.1,⟨hs.os,hs.tape,hs.output,hs.size,λb hb ho ht=>hs.same b hb (λh=>ho (y b h)) ht,hs.tapes,hs.drawn⟩⟩⟩
 |outgrown=>exact hp.elim
theorem nU{f:Nat}{fn:Func}{code:Code}{cc:CC}{rs:List ai}{A:PT}(x:∀f,Tri dq P f (S f).pt)(a:P.follows .mixedOrders=true)(y:P.funcs[f]? =some fn)(hb:fn.body=some code)(t:dH P f){N:Nat}(C:fn.ntmps=N)
 (u:aG P im N code=some (bI cc)) (w:fn.results.toList.mapM (fD P)=some rs)
 (F:∀ (ds:List D) (H:ab) (d:Nat) (K:D->ab->Prop),A d ds H K->ds.length<=N/\
   ∃ (b:List D) (c:ab) (h:Nat->Nat),LeL ds b/\(∀i r,c i=some r->H (h i)=some r)/\(∀i j r s,c i=some r->c j=some s->h i=h j->i=j)/\
    ∃Q:D->ab->Prop,vc S cc (wC rs Q) (dI b) c/\∀r H',Q r H'->∃(r':D) (Hf l:ab) (p:Nat->Option Nat),FrzTo Hf r r'/\(∀j q,Hf j=some q->H' j=some q/\∀i,p i≠some j)/\K r' l/\
     (∀i s,l i=some s->match p i with|some j=>H' j=some s|none=>H i=some s/\∀k q,c k=some q->h k≠i)/\
     (∀i j k s q,l i=some s->l j=some q->p i=some k->p j=some k->i=j)):Tri dq P f A:=
 (qcd (z:=Z2) (pj x cc) a y hb t C u w F).no
end
structure BA (P:Program) (f:Nat) (im:List Nat) (cc:CC) (rs:List ai) (N:Nat):Prop where
 yH:P.follows .mixedOrders=true
 enter:dH P f
 ex:∃fn code,P.funcs[f]? =some fn/\fn.body=some code/\fn.ntmps=N/\aG P im N code=some (bI cc)/\fn.results.toList.mapM (fD P)=some rs
section
variable {P:Program}{S:Nat->Spc}{f:Nat}{im:List Nat}{cc:CC}{rs:List ai}{N:Nat}
def qjw{X:Type}(dec:List D->Option X)(pre:X->Prop)(post:X->D->Prop):Spc:=
 .pure { pre:=λds=>∃x,dec ds=some x/\pre x,post:=λds r=>∀x,dec ds=some x->pre x->post x r }
def qh3{X:Type}{dec:List D->Option X}{pre:X->Prop}{post:X->D->Prop}{d:Nat}{ds:List D}{H:ab}{K:D->ab->Prop}(x:X)(h:dec ds=some x)(hp:pre x)
 (hk:∀r,post x r->K r H):(qjw dec pre post).pt d ds H K:=⟨⟨x,h,hp⟩,λr a=>hk r (a x h hp)⟩
theorem qh9(p:∀f,Tri dq P f (S f).pt)(h:BA P f im cc rs N){X:Type}{dec:List D->Option X}{view:X->List D}{pre:X->Prop}{post:X->D->Prop}
 (b:∀ds x,dec ds=some x->LeL ds (view x)) (t:∀x,(view x).length<=N)
 (u:∀x,pre x->vc S cc (wC rs λr H'=>∃r',FrzTo H' r r'/\post x r') (dI (view x)) dm):Tri dq P f (qjw dec pre post).pt:=by
 obtain⟨yH,enter,fn,code,h1,h2,h3,h4,h5⟩:=h;refine nU p yH h1 h2 enter h3 h4 h5 ?_;rintro ds H d K ⟨⟨x,c,hp⟩,w⟩;have hl:=b ds x c;refine⟨by rw[hl.1];exact t x,view x,dm,id,hl,λi r h=>by simp[dm]at h,λi j r s h=>by simp[dm]at h,_,u x hp,?_⟩;rintro r H' ⟨r',A,a⟩;refine⟨r',H',H,λ_=>none,A,λj q h=>⟨h,λi=>by simp⟩,w r' (λy l _=>?_),λi s hi=>⟨hi,λk q h=>by simp[dm]at h⟩,λi j k s q _ _ h=>by cases h⟩;rw[c]at l;cases l;exact a
end
class Cod (X:Type) where
 wd:Nat
 enc:X->D
 dec:D->Option X
 kn:∀x,(enc x).kn=true
 wid:∀x,(enc x).cells.length=wd
 dec_enc:∀x,dec (enc x)=some x
 le:∀d x,dec d=some x->FrzTo dm d (enc x)
open Cod (enc dec)
instance:Cod Int where
 wd:=1
 enc n:= .v (.int .i64 n)
 dec| .v (.int .i64 n)=>some n|_=>none
 kn _:=rfl
 wid _:=rfl
 dec_enc _:=rfl
 le d x h:=by
  split at h;grind [FrzTo];grind
instance:Cod Bool where
 wd:=1
 enc n:= .v (.bool n)
 dec| .v (.bool n)=>some n|_=>none
 kn _:=rfl
 wid _:=rfl
 dec_enc _:=rfl
 le d x h:=by
  split at h;grind [FrzTo];grind
instance:Cod ByteArray where
 wd:=1
 enc n:= .v (.string n)
 dec| .v (.string n)=>some n|_=>none
 kn _:=rfl
 wid _:=rfl
 dec_enc _:=rfl
 le d x h:=by
  split at h;grind [FrzTo];grind
def Z6{X:Type}{f:D->Option X} :∀{es:List D} {l:List X},es.mapM f=some l->es.length=l.length/\∀(k:Nat) (c:D) (x:X),es[k]? =some c->l[k]? =some x->f c=some x
 | [],l,h=>by
   grind
 | d::es,l,h=>by
   rw[qGM]at h;simp only[qF5,qF3]at h;obtain⟨y,b,r,a,h⟩:=h;cases h;have j:=Z6 a;grind
def IN{X:Type}[Cod X]:∀(l:List X),(l.map enc).mapM (dec (X:=X))=some l
 | []=>by simp
 |x::l=>by rw[qGG,qGM,Cod.dec_enc,IN l];rfl
instance {X:Type} [Cod X]:Cod (List X) where
 wd:=1
 enc l:= .list (Cod.wd X) (l.map enc)
 dec
  | .list n es=>if n=Cod.wd X then es.mapM (dec (X:=X))else none
  | .v (.slice none 0 0)=>some []
  | _=>none
 kn _:=rfl
 wid _:=rfl
 dec_enc l:=by
  show(if _ then _ else _)=_;rw[if_pos rfl];exact IN l
 le d l h:=by
  split at h
  ·split at h
   ·rename_i n es hn;subst hn;obtain⟨h1,h2⟩:=Z6 h;refine .list (by grind) (λe he=>?_) (λk c c' hc a=>?_);grind [Cod.kn,Cod.wid];grind [Cod.le]
   grind
  grind [FrzTo];grind
def qoD(n:Int):enc n= .v (.int .i64 n):=rfl
def qk1(b:Bool):enc b= .v (.bool b):=rfl
def qoC(s:ByteArray):enc s= .v (.string s):=rfl
def qsd:List D->Option Unit
 | []=>some ()
 | _=>none
def qsc{X:Type}[Cod X]:List D->Option X
 | [a]=>dec a
 | _=>none
def qsb{X Y:Type}[Cod X][Cod Y]:List D->Option (X×Y)
 | [a,b]=>(dec a).bind λx=>(dec b).bind λy=>some (x,y)
 | _=>none
def qsa{X Y Z:Type}[Cod X][Cod Y][Cod Z]:List D->Option (X×Y×Z)
 | [a,b,c]=>(dec a).bind λx=>(dec b).bind λy=>(dec c).bind λz=>some (x,y,z)
 | _=>none
def qr9{X Y Z W:Type}[Cod X][Cod Y][Cod Z][Cod W]:List D->Option (X×Y×Z×W)
 | [a,b,c,d]=>(dec a).bind λx=>(dec b).bind λy=>(dec c).bind λz=>(dec d).bind λw=>some (x,y,z,w)
 | _=>none
def LeL.nil:LeL [] []:=⟨rfl,λk d a h=>by simp⟩
def LeL.cons{d b:D}{ds a:List D}(h:FrzTo dm d b)(hs:LeL ds a):LeL (d::ds) (b::a):=
 ⟨by simp[hs.1],λk e c h1 h2=>by
  grind [LeL]⟩
def LeL.agg{ds a:List D}(h:LeL ds a):FrzTo dm (.agg ds) (.agg a):= .agg h.1 h.2
def qFu:∀ds (x:Unit),qsd ds=some x->LeL ds []:=by
 grind [LeL,qsd]
def qFt{X:Type}[Cod X]:∀ds (x:X),qsc ds=some x->LeL ds [enc x]:=by
 intro ds x h;unfold qsc at h;split at h;grind [LeL,Cod.le];grind
def qFs{X Y:Type}[Cod X][Cod Y]:∀ds (x:X×Y),qsb ds=some x->LeL ds [enc x.1,enc x.2]:=by
 intro ds x h;unfold qsb at h;split at h;grind [LeL,Option.bind_eq_some_iff,Cod.le];grind
def qFr{X Y Z:Type}[Cod X][Cod Y][Cod Z]:∀ds (x:X×Y×Z),qsa ds=some x->LeL ds [enc x.1,enc x.2.1,enc x.2.2]:=by
 intro ds x h;unfold qsa at h;split at h;grind [LeL,Option.bind_eq_some_iff,Cod.le];grind
def qFq{X Y Z W:Type}[Cod X][Cod Y][Cod Z][Cod W]:∀ds (x:X×Y×Z×W),qr9 ds=some x->LeL ds [enc x.1,enc x.2.1,enc x.2.2.1,enc x.2.2.2]:=by
 intro ds x h;unfold qr9 at h;split at h;grind [LeL,Option.bind_eq_some_iff,Cod.le];grind
def Kj:List (Nat×Spc)->Nat->Spc
 | [],_=> .none
 |(g,c)::l,f=>if f=g then c else Kj l f
def YG(P:Program)(f:Nat):Tri dq P f (Spc.none).pt:=λ_ _ _ _ _ _ _ _ _ _ _ _ _ h=>h.elim
def ag{P:Program} :∀{l:List (Nat×Spc)},(∀p∈l,Tri dq P p.1 p.2.pt)->∀f,Tri dq P f (Kj l f).pt
 | [],_,f=>YG P f
 | (g,c)::l,h,f=>by
  unfold Kj;split;simp_all
  ·exact ag (λp hp=>h p (by grind)) f
def ae{P:Program} :∀p∈ ([]:List (Nat×Spc)),Tri dq P p.1 p.2.pt:=λp h=>by cases h
def aa{P:Program}{f:Nat}{c:Spc}{l:List (Nat×Spc)}(h:Tri dq P f c.pt)(hl:∀p∈l,Tri dq P p.1 p.2.pt):∀p∈ (f,c)::l,Tri dq P p.1 p.2.pt:=λp hp=>by
 grind
def qg5{X:Type}[Cod X]{H:ab}{id el:Nat}{x:Value}{l:List X}(h:H id=some (.row x el (Cod.wd X) (l.map enc))):FrzTo H (.own id x) (enc l):=
 .row h rfl (λd a=>by grind [Cod.kn,Cod.wid]) (λk c c' h1 h2=>by grind [FrzTo])
end
end Go.Gv
