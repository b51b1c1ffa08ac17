/- A part of the framework and of the walks: T3. -/
import Derived.Test.YtphdikcommfnhaaGreatDoorGe11
set_option linter.unusedSimpArgs false
set_option linter.unusedVariables false
set_option linter.unusedSectionVars false

namespace Go.Gv
def COp.ops:COp->List Operand
 | .mv x| .box _ _ x| .tbx _ x| .load _ _ x| .nilck x| .not x| .neg x| .conv _ x| .faddr _ x| .fld _ _ _ x| .ext x _| .len x| .slen x=>[x]
 | .pick c x y=>[c,x,y]
 | .alloc _ _| .nslice _ _| .bad=>[]
 | .build _ ps=>ps.map (·.2.2)
 | .bslice _ _ ps=>ps
 | .mslice _ _ ps=>ps
 | .store _ _ x y| .arith _ x y| .cmp _ x y| .eql _ _ _ x y| .scat x y| .iaddr _ x y| .sidx x y| .append _ _ _ _ x y=>[x,y]
 | .clo _ xs| .mm _ xs| .call _ xs| .callb _ _ xs=>xs
 | .appmk _ _ _ _ _ x y| .copy _ x y=>[x,y]
 | .clear _ _ _ x| .cap x| .srange x| .snext x| .sbytes x| .bstr x| .rstr x| .mkif _ x=>[x]
 | .mkslice _ _ _ _ _ l c=>[l,c]
 | .slice _ x lo hi| .sslice x lo hi=>x::lo.toList++hi.toList
 | .callv f xs=>f::xs
 | .m _ xs=>xs
def qoL(A:PT):Prop:=∃ (p:List D->Prop) (o:Nat->List D->D->Res->Prop),∀ (t:Nat) (ds:List D) (H:ab) (K:D->ab->Prop),A t ds H K↔ (p ds/\∀d u,o t ds d u->K d (ah H t (some u)))
def Yy(dst:Option Nat)(s:Spc)(args:List D)(H:ab)(K:D->ab->Prop):Prop:=match s with
 | .pure pc=>pc.pre args/\∀r,pc.post args r->K r H
 | .gen A _=>match dst with
   | some t=>qoL A/\A t args H K
   | none=>False
 | .none=>False
def Tq(i:Nat):Nat:=if 990<=i/\i < 1000 then 0 else i
def Ff(wid:Option Nat)(i:Nat):Prop:=match wid with|some t=>Tq i=Tq t|none=>False
instance (wid:Option Nat) (i:Nat):Decidable (Ff wid i):=by unfold Ff;split <;> infer_instance
def rc(H:ab)(wid:Option Nat):ab:=fun i=>if Ff wid i then H i else none
def gm(H:ab)(wid:Option Nat)(u:List (Nat×Res)):ab:=fun i=>if Ff wid i then(match u.lookup i with|some r=>some r|none=>H i)else H i
def qhn(r:Nat)(A:PT)(args:List D):Prop:=∃ (p:ab->Prop) (o:ab->D->List (Nat×Res)->Prop),∀ (t:Nat) (H:ab) (K:D->ab->Prop),A t args H K↔ (p (rc H (some r))/\∀d u,o (rc H (some r)) d u->K d (gm H (some r) u))
def JF(r:Nat)(dst:Option Nat)(s:Spc)(args:List D)(H:ab)(K:D->ab->Prop):Prop:=match s with
 | .gen A _=>qhn r A args/\A (dst.getD 0) args H K
 | _=>False
def aw(S:Nat->Spc)(c:COp)(dst:Option Nat)(σ:Sg)(Hr H:ab)(K:D->ab->Prop):Prop:=
 match c with
 | .call f args=>Yy dst (S f) (args.map (ev σ)) H K
 | .callb r f args=>JF r dst (S f) (args.map (ev σ)) H K
 | .callv f args=>match ev σ f with
   | .clo g caps=>match S g with
     | .pure pc=>pc.pre (args.map (ev σ) ++caps)/\∀r,pc.post (args.map (ev σ) ++caps) r->K r H
     | _=>False
   | _=>False
 | .alloc el z=>bz (.alloc el z) dst σ H K
 | .box el false x=>bz (.box el false x) dst σ H K
 | .tbx el x=>bz (.tbx el x) dst σ H K
 | .nslice el n=>bz (.nslice el n) dst σ H K
 | .mslice el n ps=>bz (.mslice el n ps) dst σ H K
 | .mkslice el n b agg z l c=>bz (.mkslice el n b agg z l c) dst σ H K
 | .append rt el n b x y=>vk n (ev σ y) Hr fun es2=>match rt with
   | none=>match dst,ev σ x with
     | some t, .v (.slice none 0 0)=>es2.length*b<=140737488355328/\es2.length<=140737488355328/\∀v,K (.own t v) (ah H t (some (.row v el n es2)))
     | _,_=>False
   | some r=>match ev σ x with
     | .own id x=>id=r/\match H r with
       | some (.row x' el' n' es)=>x'=x/\el'=el/\n'=n/\(es.length+es2.length) *b<=140737488355328/\es.length+es2.length<=140737488355328/\∀v,K (.own r v) (ah H r (some (.row v el n (es++es2))))
       | _=>False
     | _=>False
 | .store rt sz x y=>(ev σ y).kn=true/\(ev σ y).cells.length=sz/\match rt with
   | none=>False
   | some r=>match ev σ x with
     | .bptr id b off=>id=r/\match H r with
       | some (.box b' cells)=>b'=b/\off+sz<=cells.length/\K .undef (ah H r (some (.box b' (setAt cells off (ev σ y).cells))))
       | _=>False
     | .eptr id x n i off=>id=r/\match H r with
       | some (.row x' el n' es)=>x'=x/\n'=n/\0 < n/\off+sz<=n/\i < es.length/\∀d,es[i]? =some d->
          K .undef (ah H r (some (.row x' el n' (es.set i (if off=0/\sz=n then ev σ y else .agg (setAt d.cells off (ev σ y).cells))))))
       | _=>False
     | _=>False
 | .clear .. | .copy .. | .srange .. | .snext .. =>False
 | .appmk el n b agg z x c=>bz (.appmk el n b agg z x c) dst σ H K
 | .m .mk xs=>bz (.m .mk xs) dst σ H K
 | c=>am c σ Hr fun d=>K d H
def COp.wid(c:COp)(dst:Option Nat):Option Nat:=
 match c with
 | .append (some r) _ _ _ _ _=>some r
 | .store (some r) _ _ _=>some r
 | .callb r _ _=>some r
 | _=>dst
def CI.wid:CI->Option Nat
 | .op d _ c=>c.wid d
 | .frz _ _=>none
def bu:List CI->ab->ab
 | [],H=>H
 | .frz _ _::_,H=>H
 | .op d g c::l,H=>fun i=>if Ff (CI.op d g c).wid i then none else bu l H i
def mE(S:Nat->Spc):List CI->Sg->ab->ab->(Sg->ab->Prop)->Prop
 | [],σ,_,H,K=>K σ H
 | .frz _ _::r,σ,Hr,H,K=>mE S r σ (bu r Hr) H K
 | .op dst g c::r,σ,Hr,H,K=>qw g σ (fun σ=>aw S c dst σ Hr H fun d H'=>mE S r (fe σ dst d) Hr H' K) (fun σ=>mE S r (fe σ dst .undef) Hr H K)
def L0(S:Nat->Spc)(x:CI)(σ:Sg)(Hr H:ab)(K:D->ab->Prop):Prop:=
 match x with
 | .frz _ _=>False
 | .op dst g c=>match g with
   | none=>aw S c dst σ Hr H K
   | some (s,b)=>match σ s with
     | .v (.bool t)=>(t=b->aw S c dst σ Hr H K)/\(t=(!b)->K .undef H)
     | .undef=>K .undef H
     | _=>False
def CI.dst:CI->Option Nat
 | .op d _ _=>d
 | .frz _ _=>none
def qeA(S:Nat->Spc):List (CI×ab)->Sg->ab->(Sg->ab->Prop)->Prop
 | [],σ,H,K=>K σ H
 | x::r,σ,H,K=>L0 S x.1 σ x.2 H fun d H'=>qeA S r (fe σ x.1.dst d) H' K
def PR(F:(D->Prop)->Prop):Prop:=∃ (pre:Prop) (out:D->Prop),∀K,F K↔ (pre/\∀d,out d->K d)
theorem bh(d:D):PR fun K=>K d:=⟨True,fun e=>e=d,fun K=>⟨fun h=>⟨trivial,fun e he=>he ▸h⟩,fun h=>h.2 d rfl⟩⟩
theorem iy:PR fun _=>False:=⟨False,fun _=>True,fun K=>⟨fun h=>h.elim,fun h=>h.1⟩⟩
theorem aC{A:Prop}{F:(D->Prop)->Prop}(h:PR F):PR fun K=>A/\F K:=by
 obtain⟨pre,out,h⟩:=h
 exact⟨A/\pre,out,fun K=>by dsimp only;rw[h K,and_assoc]⟩
theorem lH{A:Prop}{F:(D->Prop)->Prop}(h:PR F):PR fun K=>A->F K:=by
 obtain⟨pre,out,h⟩:=h
 refine⟨A->pre,fun d=>A/\out d,fun K=>?_⟩
 constructor
 ·intro hf
  exact⟨fun ha=>((h K).1 (hf ha)).1,fun d hd=>((h K).1 (hf hd.1)).2 d hd.2⟩
 ·intro hf ha
  exact(h K).2 ⟨hf.1 ha,fun d hd=>hf.2 d ⟨ha,hd⟩⟩
theorem xS{α:Type}{F:α->(D->Prop)->Prop}(h:∀x,PR (F x)):PR fun K=>∀x,F x K:=by
 have h':∀x,∃ (p:Prop× (D->Prop)),∀K,F x K↔ (p.1/\∀d,p.2 d->K d):=fun x=>by
  obtain⟨pre,out,hx⟩:=h x
  exact⟨(pre,out),hx⟩
 obtain⟨p,hp⟩:=qzR h'
 refine⟨∀x,(p x).1,fun d=>∃x,(p x).2 d,fun K=>?_⟩
 constructor
 ·intro hf
  exact⟨fun x=>((hp x K).1 (hf x)).1,fun d ⟨x,hx⟩=>((hp x K).1 (hf x)).2 d hx⟩
 ·intro hf x
  exact(hp x K).2 ⟨hf.1 x,fun d hd=>hf.2 d ⟨x,hd⟩⟩
theorem RJ{F G:(D->Prop)->Prop}(h1:PR F)(h2:PR G):PR fun K=>F K/\G K:=by
 obtain⟨p1,o1,h1⟩:=h1
 obtain⟨p2,o2,h2⟩:=h2
 refine⟨p1/\p2,fun d=>o1 d\/o2 d,fun K=>?_⟩
 dsimp only
 rw[h1 K,h2 K]
 constructor
 ·rintro⟨⟨a,b⟩,c,d⟩
  exact⟨⟨a,c⟩,fun e he=>he.elim (b e) (d e)⟩
 ·rintro⟨⟨a,c⟩,b⟩
  exact⟨⟨a,fun e he=>b e (.inl he)⟩,c,fun e he=>b e (.inr he)⟩
theorem M8(σ:Sg):∀ (ps:List (Nat×Nat×Operand)) (cs:List D),PR fun K=>kA σ ps cs fun cs=>K (.agg cs)
 | [],cs=>bh _
 | (off,sz,x)::r,cs=>aC (aC (M8 σ r _))
theorem Y3(op:BinOp)(k:IntKind)(a b:Int):PR fun K=>hU op k a b K:=by
 cases op <;> simp only[hU] <;> first
  | exact iy
  | exact bh _
  | exact aC (bh _)
  | exact aC (aC (bh _))
theorem O1(lo hi:Option (Option (IntKind×Int)))(len:Nat)(f:Nat->Nat->D):PR fun K=>uX lo hi len fun l h=>K (f l h):=by
 unfold uX
 split <;> first
  | exact bh _
  | exact aC (aC (bh _))
  | exact aC (aC (aC (bh _)))
  | exact iy
theorem WF{d:D}{H:ab}{F:List D->(D->Prop)->Prop}(h:∀es,PR (F es)):PR fun K=>Av d H fun es=>F es K:=by
 unfold Av
 split
 ·exact h _
 ·exact h _
 ·split
  ·exact aC (h _)
  ·exact iy
 ·exact iy
theorem WE(o:MOp)(ds:List D)(H:ab):PR fun K=>uP o ds H K:=by
 unfold uP
 split
 ·exact WF fun es=>aC (aC (RJ (xS fun k'=>xS fun v=>lH (lH (bh _))) (lH (bh _))))
 ·exact WF fun es=>bh _
 ·split
  ·exact aC (aC (bh _))
  ·exact aC iy
 ·refine aC (aC ?_)
  unfold KB
  split <;> first|exact bh _|exact iy
 ·exact iy
theorem RI(c:COp)(σ:Sg)(Hr:ab):PR fun K=>am c σ Hr K:=by
 unfold am
 split <;> first
  | exact bh _
  | exact iy
  | exact M8 σ _ _
  | exact aC (bh _)
  | skip
 all_goals
  (repeat' split) <;> first
    | exact bh _
    | exact iy
    | exact RJ (lH (bh _)) (lH (bh _))
    | exact aC (bh _)
    | exact aC (aC (bh _))
    | exact aC (aC (aC (bh _)))
    | exact aC (aC (aC (aC (bh _))))
    | exact aC (aC (aC (aC (xS fun _=>lH (bh _)))))
    | exact aC (aC (aC (xS fun _=>lH (bh _))))
    | exact aC (aC (xS fun _=>lH (bh _)))
    | exact aC (Y3 _ _ _ _)
    | exact lH (bh _)
    | exact aC (lH (bh _))
    | exact aC iy
    | exact aC (aC (O1 _ _ _ _))
    | exact aC (O1 _ _ _ _)
    | exact O1 _ _ _ fun _ _=>_
    | exact WE _ _ _
    | skip
def vh(H:ab)(dst:Option Nat)(u:Option Res):ab:=
 match dst,u with
 | some t,some r=>ah H t (some r)
 | _,_=>H
def LinU0(dst:Option Nat)(F:ab->(D->ab->Prop)->Prop):Prop:=
 ∃ (pre:Prop) (out:D->Option Res->Prop),∀H K,F H K↔ (pre/\∀d u,out d u->K d (vh H dst u))
def HH(H:ab):Option Nat->Option Res
 | some t=>H t
 | none=>none
def LinU1(wid:Option Nat)(F:ab->(D->ab->Prop)->Prop):Prop:=
 ∀r0,∃ (pre:Prop) (out:D->Option Res->Prop),∀H,HH H wid=r0->∀K,F H K↔ (pre/\∀d u,out d u->K d (vh H wid u))
theorem LinU0.lin1{dst:Option Nat}{F:ab->(D->ab->Prop)->Prop}(h:LinU0 dst F):LinU1 dst F:=fun _=>by
 obtain⟨pre,out,h⟩:=h
 exact⟨pre,out,fun H _ K=>h H K⟩
theorem La(H:ab)(dst:Option Nat):vh H dst none=H:=by cases dst <;> rfl
theorem O3{dst:Option Nat}{G:(D->Prop)->Prop}(h:PR G):LinU0 dst fun H K=>G fun d=>K d H:=by
 obtain⟨pre,out,h⟩:=h
 refine⟨pre,fun d u=>out d/\u=none,fun H K=>?_⟩
 dsimp only
 rw[h]
 constructor
 ·rintro⟨a,b⟩
  exact⟨a,fun d u ⟨h1,h2⟩=>by subst h2;rw[La];exact b d h1⟩
 ·rintro⟨a,b⟩
  exact⟨a,fun d h1=>by have:=b d none ⟨h1,rfl⟩;rwa [La]at this⟩
theorem aA(dst:Option Nat):LinU0 dst fun _ _=>False:=⟨False,fun _ _=>True,fun _ _=>⟨fun h=>h.elim,fun h=>h.1⟩⟩
theorem nD{t:Nat}{α:Type}{A:Prop}(f:α->D)(r:α->Res):LinU0 (some t) fun H K=>A/\∀b,K (f b) (ah H t (some (r b))):=by
 refine⟨A,fun d u=>∃b,d=f b/\u=some (r b),fun H K=>?_⟩
 constructor
 ·rintro⟨a,h⟩
  exact⟨a,fun d u ⟨b,h1,h2⟩=>by subst h1;subst h2;exact h b⟩
 ·rintro⟨a,h⟩
  exact⟨a,fun b=>h _ _ ⟨b,rfl,rfl⟩⟩
theorem LinU0.congr{dst:Option Nat}{F G:ab->(D->ab->Prop)->Prop}(h:LinU0 dst F)(hfg:∀H K,G H K↔F H K):LinU0 dst G:=by
 obtain⟨pre,out,h⟩:=h
 exact⟨pre,out,fun H K=>(hfg H K).trans (h H K)⟩
theorem ju{S:Nat->Spc}{c:COp}{dst:Option Nat}{σ:Sg}{Hr H:ab}{K:D->ab->Prop}(h:c.isRead=true):aw S c dst σ Hr H K↔am c σ Hr fun d=>K d H:=by
 cases c <;> first|exact qyB|(simp[COp.isRead]at h;done)|skip
 ·rename_i el im x
  cases im
  ·simp[COp.isRead]at h
  ·exact qyB
 ·rename_i mo xs
  cases mo <;> first|(simp[COp.isRead,MOp.isRead]at h;done)|exact qyB
theorem qcl{dst:Option Nat}{n:Nat}{d:D}{Hr:ab}{F:List D->ab->(D->ab->Prop)->Prop}(h:∀es,LinU0 dst (F es)):LinU0 dst fun H K=>mT n d Hr fun es=>F es H K:=by
 have conj:∀ {A:Prop} {G:ab->(D->ab->Prop)->Prop},LinU0 dst G->LinU0 dst fun H K=>A/\G H K:=fun {A G} h=>by
  obtain⟨pre,out,h⟩:=h
  exact⟨A/\pre,out,fun H K=>by dsimp only;rw[h H K,and_assoc]⟩
 unfold mT
 split
 ·exact conj (h _)
 ·split
  ·exact conj (conj (h _))
  ·exact aA _
 ·exact h _
 ·split
  ·exact conj (conj (conj (h _)))
  ·exact aA _
 ·exact aA _
theorem Y4{dst:Option Nat}{n:Nat}{d:D}{Hr:ab}{F:List D->ab->(D->ab->Prop)->Prop}(h:∀es,LinU0 dst (F es)):LinU0 dst fun H K=>vk n d Hr fun es=>F es H K:=by
 unfold vk
 split
 ·rename_i s
  obtain⟨pre,out,h⟩:=h (FA s)
  exact⟨n=1/\pre,out,fun H K=>by dsimp only;rw[h H K,and_assoc]⟩
 ·exact qcl h
theorem qcm{wid:Option Nat}{n:Nat}{d:D}{Hr:ab}{r0:Option Res}{F:List D->ab->(D->ab->Prop)->Prop}
 (h:∀es,∃ (pre:Prop) (out:D->Option Res->Prop),∀H,HH H wid=r0->∀K,F es H K↔ (pre/\∀d u,out d u->K d (vh H wid u))):
 ∃ (pre:Prop) (out:D->Option Res->Prop),∀H,HH H wid=r0->∀K,(mT n d Hr fun es=>F es H K) ↔ (pre/\∀d u,out d u->K d (vh H wid u)):=by
 have conj:∀ {A:Prop} {G:ab->(D->ab->Prop)->Prop},(∃ (pre:Prop) (out:D->Option Res->Prop),∀H,HH H wid=r0->∀K,G H K↔ (pre/\∀d u,out d u->K d (vh H wid u)))->
  ∃ (pre:Prop) (out:D->Option Res->Prop),∀H,HH H wid=r0->∀K,(A/\G H K) ↔ (pre/\∀d u,out d u->K d (vh H wid u)):=fun {A G} h=>by
  obtain⟨pre,out,h⟩:=h
  exact⟨A/\pre,out,fun H hr K=>by rw[h H hr K,and_assoc]⟩
 have no:∃ (pre:Prop) (out:D->Option Res->Prop),∀H,HH H wid=r0->∀K:D->ab->Prop,False↔ (pre/\∀d u,out d u->K d (vh H wid u)):=⟨False,fun _ _=>True,fun _ _ _=>⟨fun h=>h.elim,fun h=>h.1⟩⟩
 unfold mT
 split
 ·exact conj (h _)
 ·split
  ·exact conj (conj (h _))
  ·exact no
 ·exact h _
 ·split
  ·exact conj (conj (conj (h _)))
  ·exact no
 ·exact no
theorem Y7{wid:Option Nat}{n:Nat}{d:D}{Hr:ab}{r0:Option Res}{F:List D->ab->(D->ab->Prop)->Prop}
 (h:∀es,∃ (pre:Prop) (out:D->Option Res->Prop),∀H,HH H wid=r0->∀K,F es H K↔ (pre/\∀d u,out d u->K d (vh H wid u))):
 ∃ (pre:Prop) (out:D->Option Res->Prop),∀H,HH H wid=r0->∀K,(vk n d Hr fun es=>F es H K) ↔ (pre/\∀d u,out d u->K d (vh H wid u)):=by
 unfold vk
 split
 ·rename_i s
  obtain⟨pre,out,h⟩:=h (FA s)
  exact⟨n=1/\pre,out,fun H hr K=>by dsimp only;rw[h H hr K,and_assoc]⟩
 ·exact qcm h
theorem Y6(S:Nat->Spc)(c:COp)(dst:Option Nat)(σ:Sg)(Hr:ab)(hna:∀r el n b x y,c≠ .append (some r) el n b x y)(hns:∀r sz x y,c≠ .store (some r) sz x y)(hnb:∀r f args,c≠ .callb r f args):LinU0 dst fun H K=>aw S c dst σ Hr H K:=by
 by_cases hro:c.isRead=true
 ·exact(O3 (RI c σ Hr)).congr fun H K=>ju hro
 cases c
 case call f args=>
  simp only[aw]
  cases S f with
  | pure pc=>exact O3 (G:=fun K=>pc.pre (args.map (ev σ))/\∀r,pc.post (args.map (ev σ)) r->K r) (aC (xS fun r=>lH (bh r)))
  | none=>exact aA dst
  | gen A hA=>
    cases dst with
    | none=>exact aA none
    | some t=>
      by_cases hf:qoL A
      ·obtain⟨p,o,h⟩:=id hf
       refine⟨p (args.map (ev σ)),fun d u=>∃u',u=some u'/\o t (args.map (ev σ)) d u',fun H K=>?_⟩
       simp only[Yy]
       rw[h t]
       constructor
       ·rintro⟨_,a,b⟩
        exact⟨a,fun d u ⟨u',e,h1⟩=>by subst e;exact b d u' h1⟩
       ·rintro⟨a,b⟩
        exact⟨hf,a,fun d u h1=>b d (some u) ⟨u,rfl,h1⟩⟩
      ·exact(aA (some t)).congr fun H K=>⟨fun h=>hf h.1,fun h=>h.elim⟩
 case callb r f args=>exact absurd rfl (hnb r f args)
 case callv f args=>
  simp only[aw]
  split
  ·rename_i g caps _
   split
   ·rename_i pc _
    exact O3 (G:=fun K=>pc.pre (args.map (ev σ) ++caps)/\∀r,pc.post (args.map (ev σ) ++caps) r->K r) (aC (xS fun r=>lH (bh r)))
   ·exact aA dst
  ·exact aA dst
 case alloc el z=>
  cases dst with
  | none=>simp only[aw,bz];exact aA _
  | some t=>exact(nD (t:=t) (A:=True) (fun b=>D.bptr t b 0) (fun b=>Res.box b (z.map vS))).congr (fun H K=>by simp only[aw,bz,true_and])
 case box el im x=>
  cases im with
  | true=>exact absurd rfl hro
  | false=>
    cases dst with
    | none=>simp only[aw,bz];exact aA _
    | some t=>exact(nD (t:=t) (A:=(ev σ x).kn=true) (fun b=>D.bptr t b 0) (fun b=>Res.box b (ev σ x).cells)).congr (fun H K=>by simp only[aw,bz])
 case tbx el x=>
  cases dst with
  | none=>simp only[aw,bz];exact aA _
  | some t=>exact(nD (t:=t) (A:=(ev σ x).kn=true) (fun b=>D.bptr t b 0) (fun b=>Res.tbox el b (ev σ x).cells)).congr (fun H K=>by simp only[aw,bz])
 case nslice el n=>
  cases dst with
  | none=>simp only[aw,bz];exact aA _
  | some t=>exact(nD (t:=t) (A:=True) (fun x=>D.own t x) (fun x=>Res.row x el n [])).congr (fun H K=>by simp only[aw,bz,true_and])
 case mslice el n ps=>
  cases dst with
  | none=>simp only[aw,bz];exact aA _
  | some t=>exact(nD (t:=t) (A:=lG n (ps.map (ev σ))) (fun x=>D.own t x) (fun x=>Res.row x el n (ps.map (ev σ)))).congr (fun H K=>by simp only[aw,bz])
 case mkslice el n b agg z l cc=>
  cases dst with
  | none=>simp only[aw,bz];exact aA _
  | some t=>
    simp only[aw,bz]
    split
    ·rename_i e1 e2
     rename_i k1 l' k2 c'
     exact(nD (t:=t) (A:=0<=l'/\l'<=c'/\b*c'<=140737488355328/\c'<=140737488355328) (fun x=>D.own t x) (fun x=>Res.row x el n (List.replicate l'.toNat (if agg then .agg (z.map vS)else vS (z.headD (.bool false)))))).congr (fun H K=>by simp only[and_assoc])
    ·exact aA _
 case store rt sz x y=>
  cases rt with
  | some r=>exact absurd rfl (hns r sz x y)
  | none=>exact(aA dst).congr fun H K=>⟨fun h=>h.2.2.elim,fun h=>h.elim⟩
 case srange x=>exact aA dst
 case snext x=>exact aA dst
 case append rt el n b x y=>
  cases rt with
  | some r=>exact absurd rfl (hna r el n b x y)
  | none=>
    simp only[aw]
    refine Y4 fun es2=>?_
    split
    ·rename_i t _
     exact(nD (t:=t) (A:=es2.length*b<=140737488355328/\es2.length<=140737488355328) (fun v=>D.own t v) (fun v=>Res.row v el n es2)).congr (fun H K=>by simp only[and_assoc])
    ·exact aA _
 case clear n agg z x=>exact aA dst
 case copy n x y=>exact aA dst
 case appmk el n b agg z x c=>
  simp only[aw,bz]
  split
  ·cases dst with
   | none=>exact aA _
   | some t=>
     cases hc:vg (ev σ c)with
     | none=>exact aA _
     | some p=>
       obtain⟨k,c'⟩:=p
       exact(nD (t:=t) (A:=0<=c'/\c'*b<=140737488355328/\c'<=140737488355328) (fun x=>D.own t x) (fun x=>Res.row x el n (List.replicate c'.toNat (P3 agg z)))).congr (fun H K=>by simp only[and_assoc])
  ·exact aA _
 case m mo xs=>
  cases mo
  case mk=>
   cases xs with
   | nil=>
     cases dst with
     | none=>exact aA _
     | some t=>exact(nD (t:=t) (A:=True) (fun x=>D.own t x) (fun x=>Res.mrow x [])).congr (fun H K=>by simp only[aw,bz,iX,qyL,true_and])
   | cons x xs=>exact(aA dst).congr fun H K=>qyB
  case upd=>exact(aA dst).congr fun H K=>qyB
  case rng=>exact(aA dst).congr fun H K=>qyB
  case next=>exact(aA dst).congr fun H K=>qyB
  all_goals exact absurd rfl hro
 all_goals exact absurd rfl hro
theorem sP(H:ab)(wid:Option Nat):gm H wid []=H:=by
 funext i
 simp only[gm,List.lookup]
 split <;> rfl
theorem qdX(H:ab)(t:Nat)(r:Res):gm H (some t) [(t,r)]=ah H t (some r):=by
 funext i
 simp only[gm,ah]
 by_cases h:i=t
 ·subst h
  rw[if_pos (show Ff (some i) i from rfl),if_pos rfl]
  simp[List.lookup]
 ·rw[if_neg h]
  have:([(t,r)]:List (Nat×Res)).lookup i=none:=by
   have e:(i==t)=false:=by simp[h]
   simp only[List.lookup,e]
  rw[this]
  split <;> rfl
def qhm(wid:Option Nat)(F:ab->(D->ab->Prop)->Prop):Prop:=
 ∀r0,∃ (pre:Prop) (out:D->List (Nat×Res)->Prop),∀H,rc H wid=r0->∀K,F H K↔ (pre/\∀d u,out d u->K d (gm H wid u))
def qvL(R0:ab):Option Nat->Option Res
 | some t=>R0 t
 | none=>none
def qvu(wid:Option Nat)(u:Option Res):List (Nat×Res):=match wid,u with
 | some t,some r=>[(t,r)]
 | _,_=>[]
theorem Xx(H:ab)(wid:Option Nat)(u:Option Res):gm H wid (qvu wid u)=vh H wid u:=by
 cases wid with
 | none=>exact sP H none
 | some t=>cases u with
   | none=>exact sP H _
   | some r=>exact qdX H t r
theorem LinU1.lin{wid:Option Nat}{F:ab->(D->ab->Prop)->Prop}(h:LinU1 wid F):qhm wid F:=fun R0=>by
 obtain⟨pre,out,h⟩:=h (qvL R0 wid)
 refine⟨pre,fun d us=>∃u,out d u/\us=qvu wid u,fun H hr K=>?_⟩
 have h1:HH H wid=qvL R0 wid:=by
  cases wid with
  | none=>rfl
  | some t=>
    show H t=R0 t
    rw[<-hr]
    simp only[rc]
    rw[if_pos (show Ff (some t) t from rfl)]
 rw[h H h1 K]
 refine and_congr_right fun _=>⟨fun hk d us ⟨u,ho,e⟩=>?_,fun hk d u ho=>?_⟩
 ·subst e;rw[Xx];exact hk d u ho
 ·have:=hk d _ ⟨u,ho,rfl⟩
  rwa [Xx]at this
theorem LinU0.lin{dst:Option Nat}{F:ab->(D->ab->Prop)->Prop}(h:LinU0 dst F):qhm dst F:=h.lin1.lin
theorem Y5(S:Nat->Spc)(c:COp)(dst:Option Nat)(σ:Sg)(Hr:ab)(hb:¬ ∃r f args,c= .callb r f args):LinU1 (c.wid dst) fun H K=>aw S c dst σ Hr H K:=by
 by_cases h:∃r el n b x y,c= .append (some r) el n b x y
 ·obtain⟨r,el,n,b,x,y,rfl⟩:=h
  intro r0
  simp only[aw,COp.wid]
  refine Y7 fun es2=>?_
  cases ev σ x with
  | own id v=>
    cases r0 with
    | none=>
      refine⟨False,fun _ _=>True,fun H hr K=>?_⟩
      have hr:H r=none:=hr
      rw[hr]
      exact⟨fun h=>h.2.elim,fun h=>h.1.elim⟩
    | some q=>
      cases q with
      | box b' cs=>
        refine⟨False,fun _ _=>True,fun H hr K=>?_⟩
        have hr:H r=some (.box b' cs):=hr
        rw[hr]
        exact⟨fun h=>h.2.elim,fun h=>h.1.elim⟩
      | iter b' s' p'=>
        refine⟨False,fun _ _=>True,fun H hr K=>?_⟩
        have hr:H r=some (.iter b' s' p'):=hr
        rw[hr]
        exact⟨fun h=>h.2.elim,fun h=>h.1.elim⟩
      | tbox b' s' p'=>
        refine⟨False,fun _ _=>True,fun H hr K=>?_⟩
        have hr:H r=some (.tbox b' s' p'):=hr
        rw[hr]
        exact⟨fun h=>h.2.elim,fun h=>h.1.elim⟩
      | mrow x' es'=>
        refine⟨False,fun _ _=>True,fun H hr K=>?_⟩
        have hr:H r=some (.mrow x' es'):=hr
        rw[hr]
        exact⟨fun h=>h.2.elim,fun h=>h.1.elim⟩
      | miter b' c' l'=>
        refine⟨False,fun _ _=>True,fun H hr K=>?_⟩
        have hr:H r=some (.miter b' c' l'):=hr
        rw[hr]
        exact⟨fun h=>h.2.elim,fun h=>h.1.elim⟩
      | row x' el' n' es=>
        refine⟨id=r/\x'=v/\el'=el/\n'=n/\(es.length+es2.length) *b<=140737488355328/\es.length+es2.length<=140737488355328,fun d u=>∃v,d= .own r v/\u=some (.row v el n (es++es2)),fun H hr K=>?_⟩
        have hr:H r=some (.row x' el' n' es):=hr
        rw[hr]
        constructor
        ·rintro⟨h1,h2,h3,h4,h5,h6,h7⟩
         exact⟨⟨h1,h2,h3,h4,h5,h6⟩,fun d u ⟨v,e1,e2⟩=>by subst e1;subst e2;exact h7 v⟩
        ·rintro⟨⟨h1,h2,h3,h4,h5,h6⟩,h7⟩
         exact⟨h1,h2,h3,h4,h5,h6,fun v=>h7 _ _ ⟨v,rfl,rfl⟩⟩
  | _=>exact⟨False,fun _ _=>True,fun H hr K=>⟨fun h=>h.elim,fun h=>h.1.elim⟩⟩
 ·by_cases hs:∃r sz x y,c= .store (some r) sz x y
  ·obtain⟨r,sz,x,y,rfl⟩:=hs
   intro r0
   simp only[aw,COp.wid]
   have no:∃ (pre:Prop) (out:D->Option Res->Prop),∀H,HH H (some r)=r0->∀K:D->ab->Prop,False↔ (pre/\∀d u,out d u->K d (vh H (some r) u)):=⟨False,fun _ _=>True,fun _ _ _=>⟨fun h=>h.elim,fun h=>h.1⟩⟩
   have conj:∀ {A:Prop} {G:ab->(D->ab->Prop)->Prop},(∃ (pre:Prop) (out:D->Option Res->Prop),∀H,HH H (some r)=r0->∀K,G H K↔ (pre/\∀d u,out d u->K d (vh H (some r) u)))->
    ∃ (pre:Prop) (out:D->Option Res->Prop),∀H,HH H (some r)=r0->∀K,(A/\G H K) ↔ (pre/\∀d u,out d u->K d (vh H (some r) u)):=fun {A G} h=>by
    obtain⟨pre,out,h⟩:=h
    exact⟨A/\pre,out,fun H hr K=>by rw[h H hr K,and_assoc]⟩
   refine conj (conj ?_)
   cases ev σ x with
   | bptr id b off=>
     refine conj ?_
     cases r0 with
     | none=>
       refine⟨False,fun _ _=>True,fun H hr K=>?_⟩
       have hr:H r=none:=hr
       rw[hr]
       exact⟨fun h=>h.elim,fun h=>h.1.elim⟩
     | some q=>
       cases q with
       | box b' cs=>
         refine⟨b'=b/\off+sz<=cs.length,fun d u=>d= .undef/\u=some (.box b' (setAt cs off (ev σ y).cells)),fun H hr K=>?_⟩
         have hr:H r=some (.box b' cs):=hr
         rw[hr]
         constructor
         ·rintro⟨h1,h2,h3⟩
          exact⟨⟨h1,h2⟩,fun d u ⟨e1,e2⟩=>by subst e1;subst e2;exact h3⟩
         ·rintro⟨⟨h1,h2⟩,h3⟩
          exact⟨h1,h2,h3 _ _ ⟨rfl,rfl⟩⟩
       | row x' el' n' es=>
         refine⟨False,fun _ _=>True,fun H hr K=>?_⟩
         have hr:H r=some (.row x' el' n' es):=hr
         rw[hr]
         exact⟨fun h=>h.elim,fun h=>h.1.elim⟩
       | iter b' s' p'=>
         refine⟨False,fun _ _=>True,fun H hr K=>?_⟩
         have hr:H r=some (.iter b' s' p'):=hr
         rw[hr]
         exact⟨fun h=>h.elim,fun h=>h.1.elim⟩
       | tbox b' s' p'=>
         refine⟨False,fun _ _=>True,fun H hr K=>?_⟩
         have hr:H r=some (.tbox b' s' p'):=hr
         rw[hr]
         exact⟨fun h=>h.elim,fun h=>h.1.elim⟩
       | mrow x' es'=>
         refine⟨False,fun _ _=>True,fun H hr K=>?_⟩
         have hr:H r=some (.mrow x' es'):=hr
         rw[hr]
         exact⟨fun h=>h.elim,fun h=>h.1.elim⟩
       | miter b' c' l'=>
         refine⟨False,fun _ _=>True,fun H hr K=>?_⟩
         have hr:H r=some (.miter b' c' l'):=hr
         rw[hr]
         exact⟨fun h=>h.elim,fun h=>h.1.elim⟩
   | eptr id v n i off=>
     refine conj ?_
     cases r0 with
     | none=>
       refine⟨False,fun _ _=>True,fun H hr K=>?_⟩
       have hr:H r=none:=hr
       rw[hr]
       exact⟨fun h=>h.elim,fun h=>h.1.elim⟩
     | some q=>
       cases q with
       | row x' el' n' es=>
         refine⟨x'=v/\n'=n/\0 < n/\off+sz<=n/\i < es.length,fun d u=>d= .undef/\∃e,es[i]? =some e/\u=some (.row x' el' n' (es.set i (if off=0/\sz=n then ev σ y else .agg (setAt e.cells off (ev σ y).cells)))),fun H hr K=>?_⟩
         have hr:H r=some (.row x' el' n' es):=hr
         rw[hr]
         constructor
         ·rintro⟨h1,h2,h3,h4,h5,h6⟩
          exact⟨⟨h1,h2,h3,h4,h5⟩,fun d u ⟨e1,e,e2,e3⟩=>by subst e1;subst e3;exact h6 e e2⟩
         ·rintro⟨⟨h1,h2,h3,h4,h5⟩,h6⟩
          exact⟨h1,h2,h3,h4,h5,fun e he=>h6 _ _ ⟨rfl,e,he,rfl⟩⟩
       | box b' cs=>
         refine⟨False,fun _ _=>True,fun H hr K=>?_⟩
         have hr:H r=some (.box b' cs):=hr
         rw[hr]
         exact⟨fun h=>h.elim,fun h=>h.1.elim⟩
       | iter b' s' p'=>
         refine⟨False,fun _ _=>True,fun H hr K=>?_⟩
         have hr:H r=some (.iter b' s' p'):=hr
         rw[hr]
         exact⟨fun h=>h.elim,fun h=>h.1.elim⟩
       | tbox b' s' p'=>
         refine⟨False,fun _ _=>True,fun H hr K=>?_⟩
         have hr:H r=some (.tbox b' s' p'):=hr
         rw[hr]
         exact⟨fun h=>h.elim,fun h=>h.1.elim⟩
       | mrow x' es'=>
         refine⟨False,fun _ _=>True,fun H hr K=>?_⟩
         have hr:H r=some (.mrow x' es'):=hr
         rw[hr]
         exact⟨fun h=>h.elim,fun h=>h.1.elim⟩
       | miter b' c' l'=>
         refine⟨False,fun _ _=>True,fun H hr K=>?_⟩
         have hr:H r=some (.miter b' c' l'):=hr
         rw[hr]
         exact⟨fun h=>h.elim,fun h=>h.1.elim⟩
   | _=>exact no
  have hw:c.wid dst=dst:=by
   cases c
   case callb r f args=>exact absurd ⟨r,f,args,rfl⟩ hb
   case append rt el n b x y=>
    cases rt with
    | none=>rfl
    | some r=>exact absurd ⟨r,el,n,b,x,y,rfl⟩ h
   case store rt sz x y=>
    cases rt with
    | none=>rfl
    | some r=>exact absurd ⟨r,sz,x,y,rfl⟩ hs
   all_goals rfl
  rw[hw]
  exact(Y6 S c dst σ Hr (fun r el n b x y e=>h ⟨r,el,n,b,x,y,e⟩) (fun r sz x y e=>hs ⟨r,sz,x,y,e⟩) (fun r f args e=>hb ⟨r,f,args,e⟩)).lin1
theorem Kh(S:Nat->Spc)(c:COp)(dst:Option Nat)(σ:Sg)(Hr:ab):qhm (c.wid dst) fun H K=>aw S c dst σ Hr H K:=by
 by_cases hb:∃r f args,c= .callb r f args
 ·obtain⟨r,f,args,rfl⟩:=hb
  intro r0
  simp only[aw,COp.wid]
  have no:∃ (pre:Prop) (out:D->List (Nat×Res)->Prop),∀H,rc H (some r)=r0->∀K:D->ab->Prop,False↔ (pre/\∀d u,out d u->K d (gm H (some r) u)):=⟨False,fun _ _=>True,fun _ _ _=>⟨fun h=>h.elim,fun h=>h.1⟩⟩
  cases hs:S f with
  | none=>exact no
  | pure pc=>exact no
  | gen A hA=>
    by_cases hx:qhn r A (args.map (ev σ))
    ·obtain⟨p,o,h⟩:=id hx
     refine⟨p r0,fun d u=>o r0 d u,fun H hr K=>?_⟩
     simp only[JF]
     rw[h,hr]
     exact⟨fun h=>h.2,fun h=>⟨hx,h⟩⟩
    ·exact⟨False,fun _ _=>True,fun H _ K=>⟨fun h=>absurd h.1 hx,fun h=>h.1.elim⟩⟩
 ·exact(Y5 S c dst σ Hr hb).lin
theorem Ki(S:Nat->Spc)(x:CI)(σ:Sg)(Hr:ab):qhm x.wid fun H K=>L0 S x σ Hr H K:=by
 cases x with
 | frz t n=>exact(aA _).lin
 | op dst g c=>
   intro r0
   obtain⟨pre,out,h⟩:=Kh S c dst σ Hr r0
   have h':∀H,rc H (c.wid dst)=r0->∀K,aw S c dst σ Hr H K↔ (pre/\∀d u,out d u->K d (gm H (c.wid dst) u)):=h
   cases g with
   | none=>exact⟨pre,out,h⟩
   | some sb=>
     obtain⟨s,b⟩:=sb
     simp only[L0,CI.wid]
     split
     ·rename_i t e1
      refine⟨t=b->pre,fun d u=>(t=b/\out d u)\/(t=(!b)/\d= .undef/\u=[]),fun H hr K=>?_⟩
      rw[h' H hr K]
      constructor
      ·rintro⟨h1,h2⟩
       refine⟨fun e=>(h1 e).1,fun d u hd=>?_⟩
       rcases hd with⟨e,hd⟩|⟨e,rfl,rfl⟩
       ·exact(h1 e).2 d u hd
       ·rw[sP];exact h2 e
      ·rintro⟨h1,h2⟩
       refine⟨fun e=>⟨h1 e,fun d u hd=>h2 d u (.inl ⟨e,hd⟩)⟩,fun e=>?_⟩
       have:=h2 .undef [] (.inr ⟨e,rfl,rfl⟩)
       rwa [sP]at this
     ·exact⟨True,fun d u=>d= .undef/\u=[],fun H _ K=>⟨fun h=>⟨trivial,fun d u ⟨h1,h2⟩=>by subst h1;subst h2;rw[sP];exact h⟩,fun h=>by have:=h.2 .undef [] ⟨rfl,rfl⟩;rwa [sP]at this⟩⟩
     ·exact(aA _).lin r0
theorem B5{σ σ':Sg} :∀ (ps:List (Nat×Nat×Operand)) (cs:List D) (K:List D->Prop),(∀x∈ps.map (·.2.2),ev σ x=ev σ' x)->(kA σ ps cs K↔kA σ' ps cs K)
 | [],cs,K,_=>qyB
 | (off,sz,x)::r,cs,K,h=>by
  have hx:=h x (by simp)
  simp only[kA,hx]
  rw[B5 r _ K (fun y hy=>h y (by simp at hy ⊢;exact .inr hy))]
theorem Cq{c:COp}{σ σ':Sg}{Hr:ab}{K:D->Prop}(h:∀x∈c.ops,ev σ x=ev σ' x):am c σ Hr K↔am c σ' Hr K:=by
 cases c
 case build z ps=>simp only[am];exact B5 ps _ _ h
 case box el im x=>cases im <;> simp only[am];rw[h x (by simp[COp.ops])]
 case bslice el n ps=>
  have h':∀x∈ps,ev σ x=ev σ' x:=h
  simp only[am];rw[qyH h']
 case clo f caps=>
  have h':∀x∈caps,ev σ x=ev σ' x:=h
  simp only[am];rw[qyH h']
 case slice n x lo hi=>
  simp only[am]
  rw[h x (by simp[COp.ops])]
  have h1:lo.map (fun o=>vg (ev σ o))=lo.map (fun o=>vg (ev σ' o)):=by cases lo <;> simp;rw[h _ (by simp[COp.ops])]
  have h2:hi.map (fun o=>vg (ev σ o))=hi.map (fun o=>vg (ev σ' o)):=by cases hi <;> simp;rw[h _ (by simp[COp.ops])]
  rw[h1,h2]
 case sslice x lo hi=>
  simp only[am]
  rw[h x (by simp[COp.ops])]
  have h1:lo.map (fun o=>vg (ev σ o))=lo.map (fun o=>vg (ev σ' o)):=by cases lo <;> simp;rw[h _ (by simp[COp.ops])]
  have h2:hi.map (fun o=>vg (ev σ o))=hi.map (fun o=>vg (ev σ' o)):=by cases hi <;> simp;rw[h _ (by simp[COp.ops])]
  rw[h1,h2]
 case m mo xs=>
  have h':∀x∈xs,ev σ x=ev σ' x:=h
  simp only[am];rw[qyH h']
 case mm mx xs=>
  match xs with
  | []=>simp[am]
  | [x]=>simp[am]
  | [x,y]=>simp only[am];rw[h x (by simp[COp.ops]),h y (by simp[COp.ops])]
  | [x,y,z]=>simp only[am];rw[h x (by simp[COp.ops]),h y (by simp[COp.ops]),h z (by simp[COp.ops])]
  | _::_::_::_::_=>simp[am]
 case pick q x y=>simp only[am];rw[h q (by simp[COp.ops]),h x (by simp[COp.ops]),h y (by simp[COp.ops])]
 all_goals simp only[am]
 all_goals first
  | (rename_i x;rw[h x (by simp[COp.ops])];done)
  | (rename_i x y;rw[h x (by simp[COp.ops]),h y (by simp[COp.ops])];done)
  | (rename_i x i;rw[h x (by simp[COp.ops])];done)
  | skip
theorem Yx{S:Nat->Spc}{c:COp}{dst:Option Nat}{σ σ':Sg}{Hr H:ab}{K:D->ab->Prop}(h:∀x∈c.ops,ev σ x=ev σ' x):aw S c dst σ Hr H K↔aw S c dst σ' Hr H K:=by
 cases c
 case call f args=>
  simp only[aw]
  rw[qyH (fun x hx=>h x (by simpa [COp.ops]using hx))]
 case callv f args=>
  simp only[aw]
  rw[h f (by simp[COp.ops]),qyH (fun x hx=>h x (by simp[COp.ops,hx]))]
 case callb r f args=>
  simp only[aw]
  rw[qyH (fun x hx=>h x (by simpa [COp.ops]using hx))]
 case alloc el z=>exact qyB
 case box el im x=>
  cases im with
  | true=>exact(ju rfl).trans ((Cq h).trans (ju rfl).symm)
  | false=>simp only[aw,bz];rw[h x (by simp[COp.ops])]
 case tbx el x=>simp only[aw,bz];rw[h x (by simp[COp.ops])]
 case nslice el n=>exact qyB
 case mslice el n ps=>
  have h':∀x∈ps,ev σ x=ev σ' x:=h
  simp only[aw,bz];rw[qyH h']
 case mkslice el n b agg z l cc=>simp only[aw,bz];rw[h l (by simp[COp.ops]),h cc (by simp[COp.ops])]
 case store rt sz x y=>simp only[aw];rw[h x (by simp[COp.ops]),h y (by simp[COp.ops])]
 case srange x=>exact qyB
 case snext x=>exact qyB
 case append rt el n b x y=>
  simp only[aw]
  rw[h x (by simp[COp.ops]),h y (by simp[COp.ops])]
 case clear n agg z x=>exact qyB
 case copy n x y=>exact qyB
 case appmk el n b agg z x c=>simp only[aw,bz];rw[h x (by simp[COp.ops]),h c (by simp[COp.ops])]
 case m mo xs=>
  have h':∀x∈xs,ev σ x=ev σ' x:=h
  cases mo <;> first
   | exact(ju rfl).trans ((Cq h).trans (ju rfl).symm)
   | exact qyB
   | (simp only[aw,bz];rw[qyH h'])
 all_goals exact(ju rfl).trans ((Cq h).trans (ju rfl).symm)
def qhw:Operand->List Nat
 | .tmp t=>[t]
 | _=>[]
def CI.reads:CI->List Nat
 | .op _ g c=>c.ops.flatMap qhw++ (match g with|some (s,_)=>[s]|none=>[])
 | .frz _ _=>[]
theorem FL{S:Nat->Spc}{x:CI}{σ σ':Sg}{Hr H:ab}{K:D->ab->Prop}(h:∀t∈x.reads,σ t=σ' t):L0 S x σ Hr H K↔L0 S x σ' Hr H K:=by
 cases x with
 | frz t n=>exact qyB
 | op dst g c=>
   have hev:∀y∈c.ops,ev σ y=ev σ' y:=fun y hy=>by
    cases y with
    | tmp t=>exact h t (by simp only[CI.reads,qxE,qyE];exact .inl ⟨_,hy,by simp[qhw]⟩)
    | _=>rfl
   have hp:=Yx (S:=S) (dst:=dst) (Hr:=Hr) (H:=H) (K:=K) hev
   cases g with
   | none=>exact hp
   | some sb=>
     obtain⟨s,b⟩:=sb
     simp only[L0]
     rw[<-h s (by simp[CI.reads])]
     split
     ·rw[hp]
     ·exact qyB
     ·exact qyB
end Go.Gv
