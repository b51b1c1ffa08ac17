/- A part of the framework and of the walks: T3. -/
import Derived.Test.YtphdikcommfnhaaGreatDoorGg11
set_option linter.unusedSimpArgs false
set_option linter.unusedVariables false
set_option linter.unusedSectionVars false

namespace Go.Gv
def COp.ops:COp->List Operand
 | .mv x| .box _ _ x| .tbx _ x| .load _ _ x| .nilck x| .not x| .neg x| .conv _ x| .faddr _ x| .fld _ _ _ x| .ext x _| .len x| .slen x=>[x]
 | .pick c x y=>[c,x,y]
 | .alloc _ _| .nslice _ _| .bad=>[]
 | .build _ ps=>ps.map (·.2.2)
 | .bslice _ _ ps=>ps
 | .mslice _ _ ps=>ps
 | .store _ _ x y| .arith _ x y| .cmp _ x y| .eql _ _ _ x y| .scat x y| .iaddr _ x y| .sidx x y| .append _ _ _ _ x y=>[x,y]
 | .clo _ xs| .mm _ xs| .call _ xs| .callb _ _ xs=>xs
 | .appmk _ _ _ _ _ x y| .copy _ x y=>[x,y]
 | .clear _ _ _ x| .cap x| .srange x| .snext x| .sbytes x| .bstr x| .rstr x| .mkif _ x=>[x]
 | .mkslice _ _ _ _ _ l c=>[l,c]
 | .slice _ x lo hi| .sslice x lo hi=>x::lo.toList++hi.toList
 | .callv f xs=>f::xs
 | .m _ xs=>xs
def qk2(A:PT):Prop:=∃ (p:List D->Prop) (o:Nat->List D->D->Res->Prop),∀ (t:Nat) (ds:List D) (H:ab) (K:D->ab->Prop),A t ds H K↔ (p ds/\∀d u,o t ds d u->K d (ah H t (some u)))
def Vj(dst:Option Nat)(s:Spc)(args:List D)(H:ab)(K:D->ab->Prop):Prop:=match s with
 | .pure pc=>pc.pre args/\∀r,pc.post args r->K r H
 | .gen A _=>match dst with
   | some t=>qk2 A/\A t args H K
   | none=>False
 | .none=>False
def QG(i:Nat):Nat:=if 990<=i/\i < 1000 then 0 else i
def Dv(wid:Option Nat)(i:Nat):Prop:=match wid with|some t=>QG i=QG t|none=>False
instance (wid:Option Nat) (i:Nat):Decidable (Dv wid i):=by unfold Dv;split <;> infer_instance
def pF(H:ab)(wid:Option Nat):ab:=fun i=>if Dv wid i then H i else none
def fD(H:ab)(wid:Option Nat)(u:List (Nat×Res)):ab:=fun i=>if Dv wid i then(match u.lookup i with|some r=>some r|none=>H i)else H i
def qdY(r:Nat)(A:PT)(args:List D):Prop:=∃ (p:ab->Prop) (o:ab->D->List (Nat×Res)->Prop),∀ (t:Nat) (H:ab) (K:D->ab->Prop),A t args H K↔ (p (pF H (some r))/\∀d u,o (pF H (some r)) d u->K d (fD H (some r) u))
def Hs(r:Nat)(dst:Option Nat)(s:Spc)(args:List D)(H:ab)(K:D->ab->Prop):Prop:=match s with
 | .gen A _=>qdY r A args/\A (dst.getD 0) args H K
 | _=>False
def av(S:Nat->Spc)(c:COp)(dst:Option Nat)(σ:Sg)(Hr H:ab)(K:D->ab->Prop):Prop:=
 match c with
 | .call f args=>Vj dst (S f) (args.map (ev σ)) H K
 | .callb r f args=>Hs r dst (S f) (args.map (ev σ)) H K
 | .callv f args=>match ev σ f with
   | .clo g caps=>match S g with
     | .pure pc=>pc.pre (args.map (ev σ) ++caps)/\∀r,pc.post (args.map (ev σ) ++caps) r->K r H
     | _=>False
   | _=>False
 | .alloc el z=>bi (.alloc el z) dst σ H K
 | .box el false x=>bi (.box el false x) dst σ H K
 | .tbx el x=>bi (.tbx el x) dst σ H K
 | .nslice el n=>bi (.nslice el n) dst σ H K
 | .mslice el n ps=>bi (.mslice el n ps) dst σ H K
 | .mkslice el n b agg z l c=>bi (.mkslice el n b agg z l c) dst σ H K
 | .append rt el n b x y=>tA n (ev σ y) Hr fun es2=>match rt with
   | none=>match dst,ev σ x with
     | some t, .v (.slice none 0 0)=>es2.length*b<=140737488355328/\es2.length<=140737488355328/\∀v,K (.own t v) (ah H t (some (.row v el n es2)))
     | _,_=>False
   | some r=>match ev σ x with
     | .own id x=>id=r/\match H r with
       | some (.row x' el' n' es)=>x'=x/\el'=el/\n'=n/\(es.length+es2.length) *b<=140737488355328/\es.length+es2.length<=140737488355328/\∀v,K (.own r v) (ah H r (some (.row v el n (es++es2))))
       | _=>False
     | _=>False
 | .store rt sz x y=>(ev σ y).kn=true/\(ev σ y).cells.length=sz/\match rt with
   | none=>False
   | some r=>match ev σ x with
     | .bptr id b off=>id=r/\match H r with
       | some (.box b' cells)=>b'=b/\off+sz<=cells.length/\K .undef (ah H r (some (.box b' (setAt cells off (ev σ y).cells))))
       | _=>False
     | .eptr id x n i off=>id=r/\match H r with
       | some (.row x' el n' es)=>x'=x/\n'=n/\0 < n/\off+sz<=n/\i < es.length/\∀d,es[i]? =some d->
          K .undef (ah H r (some (.row x' el n' (es.set i (if off=0/\sz=n then ev σ y else .agg (setAt d.cells off (ev σ y).cells))))))
       | _=>False
     | _=>False
 | .clear .. | .copy .. | .srange .. | .snext .. =>False
 | .appmk el n b agg z x c=>bi (.appmk el n b agg z x c) dst σ H K
 | .m .mk xs=>bi (.m .mk xs) dst σ H K
 | c=>ak c σ Hr fun d=>K d H
def COp.wid(c:COp)(dst:Option Nat):Option Nat:=
 match c with
 | .append (some r) _ _ _ _ _=>some r
 | .store (some r) _ _ _=>some r
 | .callb r _ _=>some r
 | _=>dst
def CI.wid:CI->Option Nat
 | .op d _ c=>c.wid d
 | .frz _ _=>none
def bh:List CI->ab->ab
 | [],H=>H
 | .frz _ _::_,H=>H
 | .op d g c::l,H=>fun i=>if Dv (CI.op d g c).wid i then none else bh l H i
def lw(S:Nat->Spc):List CI->Sg->ab->ab->(Sg->ab->Prop)->Prop
 | [],σ,_,H,K=>K σ H
 | .frz _ _::r,σ,Hr,H,K=>lw S r σ (bh r Hr) H K
 | .op dst g c::r,σ,Hr,H,K=>oR g σ (fun σ=>av S c dst σ Hr H fun d H'=>lw S r (eH σ dst d) Hr H' K) (fun σ=>lw S r (eH σ dst .undef) Hr H K)
def JC(S:Nat->Spc)(x:CI)(σ:Sg)(Hr H:ab)(K:D->ab->Prop):Prop:=
 match x with
 | .frz _ _=>False
 | .op dst g c=>match g with
   | none=>av S c dst σ Hr H K
   | some (s,b)=>match σ s with
     | .v (.bool t)=>(t=b->av S c dst σ Hr H K)/\(t=(!b)->K .undef H)
     | .undef=>K .undef H
     | _=>False
def CI.dst:CI->Option Nat
 | .op d _ _=>d
 | .frz _ _=>none
def qbn(S:Nat->Spc):List (CI×ab)->Sg->ab->(Sg->ab->Prop)->Prop
 | [],σ,H,K=>K σ H
 | x::r,σ,H,K=>JC S x.1 σ x.2 H fun d H'=>qbn S r (eH σ x.1.dst d) H' K
def Nw(F:(D->Prop)->Prop):Prop:=∃ (pre:Prop) (out:D->Prop),∀K,F K↔ (pre/\∀d,out d->K d)
theorem aZ(d:D):Nw fun K=>K d:=⟨True,fun e=>e=d,fun K=>⟨fun h=>⟨trivial,fun e he=>he ▸h⟩,fun h=>h.2 d rfl⟩⟩
theorem gC:Nw fun _=>False:=⟨False,fun _=>True,fun K=>⟨fun h=>h.elim,fun h=>h.1⟩⟩
theorem aB{A:Prop}{F:(D->Prop)->Prop}(h:Nw F):Nw fun K=>A/\F K:=by
 obtain⟨pre,out,h⟩:=h
 exact⟨A/\pre,out,fun K=>by dsimp only;rw[h K,and_assoc]⟩
theorem kB{A:Prop}{F:(D->Prop)->Prop}(h:Nw F):Nw fun K=>A->F K:=by
 obtain⟨pre,out,h⟩:=h
 refine⟨A->pre,fun d=>A/\out d,fun K=>?_⟩
 constructor
 ·intro hf
  exact⟨fun ha=>((h K).1 (hf ha)).1,fun d hd=>((h K).1 (hf hd.1)).2 d hd.2⟩
 ·intro hf ha
  exact(h K).2 ⟨hf.1 ha,fun d hd=>hf.2 d ⟨ha,hd⟩⟩
theorem wa{α:Type}{F:α->(D->Prop)->Prop}(h:∀x,Nw (F x)):Nw fun K=>∀x,F x K:=by
 have h':∀x,∃ (p:Prop× (D->Prop)),∀K,F x K↔ (p.1/\∀d,p.2 d->K d):=fun x=>by
  obtain⟨pre,out,hx⟩:=h x
  exact⟨(pre,out),hx⟩
 obtain⟨p,hp⟩:=qvV h'
 refine⟨∀x,(p x).1,fun d=>∃x,(p x).2 d,fun K=>?_⟩
 constructor
 ·intro hf
  exact⟨fun x=>((hp x K).1 (hf x)).1,fun d ⟨x,hx⟩=>((hp x K).1 (hf x)).2 d hx⟩
 ·intro hf x
  exact(hp x K).2 ⟨hf.1 x,fun d hd=>hf.2 d ⟨x,hd⟩⟩
theorem O6{F G:(D->Prop)->Prop}(h1:Nw F)(h2:Nw G):Nw fun K=>F K/\G K:=by
 obtain⟨p1,o1,h1⟩:=h1
 obtain⟨p2,o2,h2⟩:=h2
 refine⟨p1/\p2,fun d=>o1 d\/o2 d,fun K=>?_⟩
 dsimp only
 rw[h1 K,h2 K]
 constructor
 ·rintro⟨⟨a,b⟩,c,d⟩
  exact⟨⟨a,c⟩,fun e he=>he.elim (b e) (d e)⟩
 ·rintro⟨⟨a,c⟩,b⟩
  exact⟨⟨a,fun e he=>b e (.inl he)⟩,c,fun e he=>b e (.inr he)⟩
theorem KM(σ:Sg):∀ (ps:List (Nat×Nat×Operand)) (cs:List D),Nw fun K=>ju σ ps cs fun cs=>K (.agg cs)
 | [],cs=>aZ _
 | (off,sz,x)::r,cs=>aB (aB (KM σ r _))
theorem VO(op:BinOp)(k:IntKind)(a b:Int):Nw fun K=>gk op k a b K:=by
 cases op <;> simp only[gk] <;> first
  | exact gC
  | exact aZ _
  | exact aB (aZ _)
  | exact aB (aB (aZ _))
theorem ME(lo hi:Option (Option (IntKind×Int)))(len:Nat)(f:Nat->Nat->D):Nw fun K=>tj lo hi len fun l h=>K (f l h):=by
 unfold tj
 split <;> first
  | exact aZ _
  | exact aB (aB (aZ _))
  | exact aB (aB (aB (aZ _)))
  | exact gC
theorem Tv{d:D}{H:ab}{F:List D->(D->Prop)->Prop}(h:∀es,Nw (F es)):Nw fun K=>yG d H fun es=>F es K:=by
 unfold yG
 split
 ·exact h _
 ·exact h _
 ·split
  ·exact aB (h _)
  ·exact gC
 ·exact gC
theorem Tu(o:MOp)(ds:List D)(H:ab):Nw fun K=>ta o ds H K:=by
 unfold ta
 split
 ·exact Tv fun es=>aB (aB (O6 (wa fun k'=>wa fun v=>kB (kB (aZ _))) (kB (aZ _))))
 ·exact Tv fun es=>aZ _
 ·split
  ·exact aB (aB (aZ _))
  ·exact aB gC
 ·refine aB (aB ?_)
  unfold Il
  split <;> first|exact aZ _|exact gC
 ·exact gC
theorem O5(c:COp)(σ:Sg)(Hr:ab):Nw fun K=>ak c σ Hr K:=by
 unfold ak
 split <;> first
  | exact aZ _
  | exact gC
  | exact KM σ _ _
  | exact aB (aZ _)
  | skip
 all_goals
  (repeat' split) <;> first
    | exact aZ _
    | exact gC
    | exact O6 (kB (aZ _)) (kB (aZ _))
    | exact aB (aZ _)
    | exact aB (aB (aZ _))
    | exact aB (aB (aB (aZ _)))
    | exact aB (aB (aB (aB (aZ _))))
    | exact aB (aB (aB (aB (wa fun _=>kB (aZ _)))))
    | exact aB (aB (aB (wa fun _=>kB (aZ _))))
    | exact aB (aB (wa fun _=>kB (aZ _)))
    | exact aB (VO _ _ _ _)
    | exact kB (aZ _)
    | exact aB (kB (aZ _))
    | exact aB gC
    | exact aB (aB (ME _ _ _ _))
    | exact aB (ME _ _ _ _)
    | exact ME _ _ _ fun _ _=>_
    | exact Tu _ _ _
    | skip
def tu(H:ab)(dst:Option Nat)(u:Option Res):ab:=
 match dst,u with
 | some t,some r=>ah H t (some r)
 | _,_=>H
def LinU0(dst:Option Nat)(F:ab->(D->ab->Prop)->Prop):Prop:=
 ∃ (pre:Prop) (out:D->Option Res->Prop),∀H K,F H K↔ (pre/\∀d u,out d u->K d (tu H dst u))
def FD(H:ab):Option Nat->Option Res
 | some t=>H t
 | none=>none
def LinU1(wid:Option Nat)(F:ab->(D->ab->Prop)->Prop):Prop:=
 ∀r0,∃ (pre:Prop) (out:D->Option Res->Prop),∀H,FD H wid=r0->∀K,F H K↔ (pre/\∀d u,out d u->K d (tu H wid u))
theorem LinU0.lin1{dst:Option Nat}{F:ab->(D->ab->Prop)->Prop}(h:LinU0 dst F):LinU1 dst F:=fun _=>by
 obtain⟨pre,out,h⟩:=h
 exact⟨pre,out,fun H _ K=>h H K⟩
theorem IS(H:ab)(dst:Option Nat):tu H dst none=H:=by cases dst <;> rfl
theorem MF{dst:Option Nat}{G:(D->Prop)->Prop}(h:Nw G):LinU0 dst fun H K=>G fun d=>K d H:=by
 obtain⟨pre,out,h⟩:=h
 refine⟨pre,fun d u=>out d/\u=none,fun H K=>?_⟩
 dsimp only
 rw[h]
 constructor
 ·rintro⟨a,b⟩
  exact⟨a,fun d u ⟨h1,h2⟩=>by subst h2;rw[IS];exact b d h1⟩
 ·rintro⟨a,b⟩
  exact⟨a,fun d h1=>by have:=b d none ⟨h1,rfl⟩;rwa [IS]at this⟩
theorem az(dst:Option Nat):LinU0 dst fun _ _=>False:=⟨False,fun _ _=>True,fun _ _=>⟨fun h=>h.elim,fun h=>h.1⟩⟩
theorem my{t:Nat}{α:Type}{A:Prop}(f:α->D)(r:α->Res):LinU0 (some t) fun H K=>A/\∀b,K (f b) (ah H t (some (r b))):=by
 refine⟨A,fun d u=>∃b,d=f b/\u=some (r b),fun H K=>?_⟩
 constructor
 ·rintro⟨a,h⟩
  exact⟨a,fun d u ⟨b,h1,h2⟩=>by subst h1;subst h2;exact h b⟩
 ·rintro⟨a,h⟩
  exact⟨a,fun b=>h _ _ ⟨b,rfl,rfl⟩⟩
theorem LinU0.congr{dst:Option Nat}{F G:ab->(D->ab->Prop)->Prop}(h:LinU0 dst F)(hfg:∀H K,G H K↔F H K):LinU0 dst G:=by
 obtain⟨pre,out,h⟩:=h
 exact⟨pre,out,fun H K=>(hfg H K).trans (h H K)⟩
theorem iE{S:Nat->Spc}{c:COp}{dst:Option Nat}{σ:Sg}{Hr H:ab}{K:D->ab->Prop}(h:c.isRead=true):av S c dst σ Hr H K↔ak c σ Hr fun d=>K d H:=by
 cases c <;> first|exact quJ|(simp[COp.isRead]at h;done)|skip
 ·rename_i el im x
  cases im
  ·simp[COp.isRead]at h
  ·exact quJ
 ·rename_i mo xs
  cases mo <;> first|(simp[COp.isRead,MOp.isRead]at h;done)|exact quJ
theorem Zg{dst:Option Nat}{n:Nat}{d:D}{Hr:ab}{F:List D->ab->(D->ab->Prop)->Prop}(h:∀es,LinU0 dst (F es)):LinU0 dst fun H K=>lM n d Hr fun es=>F es H K:=by
 have conj:∀ {A:Prop} {G:ab->(D->ab->Prop)->Prop},LinU0 dst G->LinU0 dst fun H K=>A/\G H K:=fun {A G} h=>by
  obtain⟨pre,out,h⟩:=h
  exact⟨A/\pre,out,fun H K=>by dsimp only;rw[h H K,and_assoc]⟩
 unfold lM
 split
 ·exact conj (h _)
 ·split
  ·exact conj (conj (h _))
  ·exact az _
 ·exact h _
 ·split
  ·exact conj (conj (conj (h _)))
  ·exact az _
 ·exact az _
theorem VP{dst:Option Nat}{n:Nat}{d:D}{Hr:ab}{F:List D->ab->(D->ab->Prop)->Prop}(h:∀es,LinU0 dst (F es)):LinU0 dst fun H K=>tA n d Hr fun es=>F es H K:=by
 unfold tA
 split
 ·rename_i s
  obtain⟨pre,out,h⟩:=h (DP s)
  exact⟨n=1/\pre,out,fun H K=>by dsimp only;rw[h H K,and_assoc]⟩
 ·exact Zg h
theorem Zh{wid:Option Nat}{n:Nat}{d:D}{Hr:ab}{r0:Option Res}{F:List D->ab->(D->ab->Prop)->Prop}
 (h:∀es,∃ (pre:Prop) (out:D->Option Res->Prop),∀H,FD H wid=r0->∀K,F es H K↔ (pre/\∀d u,out d u->K d (tu H wid u))):
 ∃ (pre:Prop) (out:D->Option Res->Prop),∀H,FD H wid=r0->∀K,(lM n d Hr fun es=>F es H K) ↔ (pre/\∀d u,out d u->K d (tu H wid u)):=by
 have conj:∀ {A:Prop} {G:ab->(D->ab->Prop)->Prop},(∃ (pre:Prop) (out:D->Option Res->Prop),∀H,FD H wid=r0->∀K,G H K↔ (pre/\∀d u,out d u->K d (tu H wid u)))->
  ∃ (pre:Prop) (out:D->Option Res->Prop),∀H,FD H wid=r0->∀K,(A/\G H K) ↔ (pre/\∀d u,out d u->K d (tu H wid u)):=fun {A G} h=>by
  obtain⟨pre,out,h⟩:=h
  exact⟨A/\pre,out,fun H hr K=>by rw[h H hr K,and_assoc]⟩
 have no:∃ (pre:Prop) (out:D->Option Res->Prop),∀H,FD H wid=r0->∀K:D->ab->Prop,False↔ (pre/\∀d u,out d u->K d (tu H wid u)):=⟨False,fun _ _=>True,fun _ _ _=>⟨fun h=>h.elim,fun h=>h.1⟩⟩
 unfold lM
 split
 ·exact conj (h _)
 ·split
  ·exact conj (conj (h _))
  ·exact no
 ·exact h _
 ·split
  ·exact conj (conj (conj (h _)))
  ·exact no
 ·exact no
theorem VT{wid:Option Nat}{n:Nat}{d:D}{Hr:ab}{r0:Option Res}{F:List D->ab->(D->ab->Prop)->Prop}
 (h:∀es,∃ (pre:Prop) (out:D->Option Res->Prop),∀H,FD H wid=r0->∀K,F es H K↔ (pre/\∀d u,out d u->K d (tu H wid u))):
 ∃ (pre:Prop) (out:D->Option Res->Prop),∀H,FD H wid=r0->∀K,(tA n d Hr fun es=>F es H K) ↔ (pre/\∀d u,out d u->K d (tu H wid u)):=by
 unfold tA
 split
 ·rename_i s
  obtain⟨pre,out,h⟩:=h (DP s)
  exact⟨n=1/\pre,out,fun H hr K=>by dsimp only;rw[h H hr K,and_assoc]⟩
 ·exact Zh h
theorem VS(S:Nat->Spc)(c:COp)(dst:Option Nat)(σ:Sg)(Hr:ab)(hna:∀r el n b x y,c≠ .append (some r) el n b x y)(hns:∀r sz x y,c≠ .store (some r) sz x y)(hnb:∀r f args,c≠ .callb r f args):LinU0 dst fun H K=>av S c dst σ Hr H K:=by
 by_cases hro:c.isRead=true
 ·exact(MF (O5 c σ Hr)).congr fun H K=>iE hro
 cases c
 case call f args=>
  simp only[av]
  cases S f with
  | pure pc=>exact MF (G:=fun K=>pc.pre (args.map (ev σ))/\∀r,pc.post (args.map (ev σ)) r->K r) (aB (wa fun r=>kB (aZ r)))
  | none=>exact az dst
  | gen A hA=>
    cases dst with
    | none=>exact az none
    | some t=>
      by_cases hf:qk2 A
      ·obtain⟨p,o,h⟩:=id hf
       refine⟨p (args.map (ev σ)),fun d u=>∃u',u=some u'/\o t (args.map (ev σ)) d u',fun H K=>?_⟩
       simp only[Vj]
       rw[h t]
       constructor
       ·rintro⟨_,a,b⟩
        exact⟨a,fun d u ⟨u',e,h1⟩=>by subst e;exact b d u' h1⟩
       ·rintro⟨a,b⟩
        exact⟨hf,a,fun d u h1=>b d (some u) ⟨u,rfl,h1⟩⟩
      ·exact(az (some t)).congr fun H K=>⟨fun h=>hf h.1,fun h=>h.elim⟩
 case callb r f args=>exact absurd rfl (hnb r f args)
 case callv f args=>
  simp only[av]
  split
  ·rename_i g caps _
   split
   ·rename_i pc _
    exact MF (G:=fun K=>pc.pre (args.map (ev σ) ++caps)/\∀r,pc.post (args.map (ev σ) ++caps) r->K r) (aB (wa fun r=>kB (aZ r)))
   ·exact az dst
  ·exact az dst
 case alloc el z=>
  cases dst with
  | none=>simp only[av,bi];exact az _
  | some t=>exact(my (t:=t) (A:=True) (fun b=>D.bptr t b 0) (fun b=>Res.box b (z.map uf))).congr (fun H K=>by simp only[av,bi,true_and])
 case box el im x=>
  cases im with
  | true=>exact absurd rfl hro
  | false=>
    cases dst with
    | none=>simp only[av,bi];exact az _
    | some t=>exact(my (t:=t) (A:=(ev σ x).kn=true) (fun b=>D.bptr t b 0) (fun b=>Res.box b (ev σ x).cells)).congr (fun H K=>by simp only[av,bi])
 case tbx el x=>
  cases dst with
  | none=>simp only[av,bi];exact az _
  | some t=>exact(my (t:=t) (A:=(ev σ x).kn=true) (fun b=>D.bptr t b 0) (fun b=>Res.tbox el b (ev σ x).cells)).congr (fun H K=>by simp only[av,bi])
 case nslice el n=>
  cases dst with
  | none=>simp only[av,bi];exact az _
  | some t=>exact(my (t:=t) (A:=True) (fun x=>D.own t x) (fun x=>Res.row x el n [])).congr (fun H K=>by simp only[av,bi,true_and])
 case mslice el n ps=>
  cases dst with
  | none=>simp only[av,bi];exact az _
  | some t=>exact(my (t:=t) (A:=kA n (ps.map (ev σ))) (fun x=>D.own t x) (fun x=>Res.row x el n (ps.map (ev σ)))).congr (fun H K=>by simp only[av,bi])
 case mkslice el n b agg z l cc=>
  cases dst with
  | none=>simp only[av,bi];exact az _
  | some t=>
    simp only[av,bi]
    split
    ·rename_i e1 e2
     rename_i k1 l' k2 c'
     exact(my (t:=t) (A:=0<=l'/\l'<=c'/\b*c'<=140737488355328/\c'<=140737488355328) (fun x=>D.own t x) (fun x=>Res.row x el n (List.replicate l'.toNat (if agg then .agg (z.map uf)else uf (z.headD (.bool false)))))).congr (fun H K=>by simp only[and_assoc])
    ·exact az _
 case store rt sz x y=>
  cases rt with
  | some r=>exact absurd rfl (hns r sz x y)
  | none=>exact(az dst).congr fun H K=>⟨fun h=>h.2.2.elim,fun h=>h.elim⟩
 case srange x=>exact az dst
 case snext x=>exact az dst
 case append rt el n b x y=>
  cases rt with
  | some r=>exact absurd rfl (hna r el n b x y)
  | none=>
    simp only[av]
    refine VP fun es2=>?_
    split
    ·rename_i t _
     exact(my (t:=t) (A:=es2.length*b<=140737488355328/\es2.length<=140737488355328) (fun v=>D.own t v) (fun v=>Res.row v el n es2)).congr (fun H K=>by simp only[and_assoc])
    ·exact az _
 case clear n agg z x=>exact az dst
 case copy n x y=>exact az dst
 case appmk el n b agg z x c=>
  simp only[av,bi]
  split
  ·cases dst with
   | none=>exact az _
   | some t=>
     cases hc:tt (ev σ c)with
     | none=>exact az _
     | some p=>
       obtain⟨k,c'⟩:=p
       exact(my (t:=t) (A:=0<=c'/\c'*b<=140737488355328/\c'<=140737488355328) (fun x=>D.own t x) (fun x=>Res.row x el n (List.replicate c'.toNat (NE agg z)))).congr (fun H K=>by simp only[and_assoc])
  ·exact az _
 case m mo xs=>
  cases mo
  case mk=>
   cases xs with
   | nil=>
     cases dst with
     | none=>exact az _
     | some t=>exact(my (t:=t) (A:=True) (fun x=>D.own t x) (fun x=>Res.mrow x [])).congr (fun H K=>by simp only[av,bi,ib,quU,true_and])
   | cons x xs=>exact(az dst).congr fun H K=>quJ
  case upd=>exact(az dst).congr fun H K=>quJ
  case rng=>exact(az dst).congr fun H K=>quJ
  case next=>exact(az dst).congr fun H K=>quJ
  all_goals exact absurd rfl hro
 all_goals exact absurd rfl hro
theorem qX(H:ab)(wid:Option Nat):fD H wid []=H:=by
 funext i
 simp only[fD,List.lookup]
 split <;> rfl
theorem qaM(H:ab)(t:Nat)(r:Res):fD H (some t) [(t,r)]=ah H t (some r):=by
 funext i
 simp only[fD,ah]
 by_cases h:i=t
 ·subst h
  rw[if_pos (show Dv (some i) i from rfl),if_pos rfl]
  simp[List.lookup]
 ·rw[if_neg h]
  have:([(t,r)]:List (Nat×Res)).lookup i=none:=by
   have e:(i==t)=false:=by simp[h]
   simp only[List.lookup,e]
  rw[this]
  split <;> rfl
def qdX(wid:Option Nat)(F:ab->(D->ab->Prop)->Prop):Prop:=
 ∀r0,∃ (pre:Prop) (out:D->List (Nat×Res)->Prop),∀H,pF H wid=r0->∀K,F H K↔ (pre/\∀d u,out d u->K d (fD H wid u))
def qrT(R0:ab):Option Nat->Option Res
 | some t=>R0 t
 | none=>none
def qrC(wid:Option Nat)(u:Option Res):List (Nat×Res):=match wid,u with
 | some t,some r=>[(t,r)]
 | _,_=>[]
theorem Un(H:ab)(wid:Option Nat)(u:Option Res):fD H wid (qrC wid u)=tu H wid u:=by
 cases wid with
 | none=>exact qX H none
 | some t=>cases u with
   | none=>exact qX H _
   | some r=>exact qaM H t r
theorem LinU1.lin{wid:Option Nat}{F:ab->(D->ab->Prop)->Prop}(h:LinU1 wid F):qdX wid F:=fun R0=>by
 obtain⟨pre,out,h⟩:=h (qrT R0 wid)
 refine⟨pre,fun d us=>∃u,out d u/\us=qrC wid u,fun H hr K=>?_⟩
 have h1:FD H wid=qrT R0 wid:=by
  cases wid with
  | none=>rfl
  | some t=>
    show H t=R0 t
    rw[<-hr]
    simp only[pF]
    rw[if_pos (show Dv (some t) t from rfl)]
 rw[h H h1 K]
 refine and_congr_right fun _=>⟨fun hk d us ⟨u,ho,e⟩=>?_,fun hk d u ho=>?_⟩
 ·subst e;rw[Un];exact hk d u ho
 ·have:=hk d _ ⟨u,ho,rfl⟩
  rwa [Un]at this
theorem LinU0.lin{dst:Option Nat}{F:ab->(D->ab->Prop)->Prop}(h:LinU0 dst F):qdX dst F:=h.lin1.lin
theorem VR(S:Nat->Spc)(c:COp)(dst:Option Nat)(σ:Sg)(Hr:ab)(hb:¬ ∃r f args,c= .callb r f args):LinU1 (c.wid dst) fun H K=>av S c dst σ Hr H K:=by
 by_cases h:∃r el n b x y,c= .append (some r) el n b x y
 ·obtain⟨r,el,n,b,x,y,rfl⟩:=h
  intro r0
  simp only[av,COp.wid]
  refine VT fun es2=>?_
  cases ev σ x with
  | own id v=>
    cases r0 with
    | none=>
      refine⟨False,fun _ _=>True,fun H hr K=>?_⟩
      have hr:H r=none:=hr
      rw[hr]
      exact⟨fun h=>h.2.elim,fun h=>h.1.elim⟩
    | some q=>
      cases q with
      | box b' cs=>
        refine⟨False,fun _ _=>True,fun H hr K=>?_⟩
        have hr:H r=some (.box b' cs):=hr
        rw[hr]
        exact⟨fun h=>h.2.elim,fun h=>h.1.elim⟩
      | iter b' s' p'=>
        refine⟨False,fun _ _=>True,fun H hr K=>?_⟩
        have hr:H r=some (.iter b' s' p'):=hr
        rw[hr]
        exact⟨fun h=>h.2.elim,fun h=>h.1.elim⟩
      | tbox b' s' p'=>
        refine⟨False,fun _ _=>True,fun H hr K=>?_⟩
        have hr:H r=some (.tbox b' s' p'):=hr
        rw[hr]
        exact⟨fun h=>h.2.elim,fun h=>h.1.elim⟩
      | mrow x' es'=>
        refine⟨False,fun _ _=>True,fun H hr K=>?_⟩
        have hr:H r=some (.mrow x' es'):=hr
        rw[hr]
        exact⟨fun h=>h.2.elim,fun h=>h.1.elim⟩
      | miter b' c' l'=>
        refine⟨False,fun _ _=>True,fun H hr K=>?_⟩
        have hr:H r=some (.miter b' c' l'):=hr
        rw[hr]
        exact⟨fun h=>h.2.elim,fun h=>h.1.elim⟩
      | row x' el' n' es=>
        refine⟨id=r/\x'=v/\el'=el/\n'=n/\(es.length+es2.length) *b<=140737488355328/\es.length+es2.length<=140737488355328,fun d u=>∃v,d= .own r v/\u=some (.row v el n (es++es2)),fun H hr K=>?_⟩
        have hr:H r=some (.row x' el' n' es):=hr
        rw[hr]
        constructor
        ·rintro⟨h1,h2,h3,h4,h5,h6,h7⟩
         exact⟨⟨h1,h2,h3,h4,h5,h6⟩,fun d u ⟨v,e1,e2⟩=>by subst e1;subst e2;exact h7 v⟩
        ·rintro⟨⟨h1,h2,h3,h4,h5,h6⟩,h7⟩
         exact⟨h1,h2,h3,h4,h5,h6,fun v=>h7 _ _ ⟨v,rfl,rfl⟩⟩
  | _=>exact⟨False,fun _ _=>True,fun H hr K=>⟨fun h=>h.elim,fun h=>h.1.elim⟩⟩
 ·by_cases hs:∃r sz x y,c= .store (some r) sz x y
  ·obtain⟨r,sz,x,y,rfl⟩:=hs
   intro r0
   simp only[av,COp.wid]
   have no:∃ (pre:Prop) (out:D->Option Res->Prop),∀H,FD H (some r)=r0->∀K:D->ab->Prop,False↔ (pre/\∀d u,out d u->K d (tu H (some r) u)):=⟨False,fun _ _=>True,fun _ _ _=>⟨fun h=>h.elim,fun h=>h.1⟩⟩
   have conj:∀ {A:Prop} {G:ab->(D->ab->Prop)->Prop},(∃ (pre:Prop) (out:D->Option Res->Prop),∀H,FD H (some r)=r0->∀K,G H K↔ (pre/\∀d u,out d u->K d (tu H (some r) u)))->
    ∃ (pre:Prop) (out:D->Option Res->Prop),∀H,FD H (some r)=r0->∀K,(A/\G H K) ↔ (pre/\∀d u,out d u->K d (tu H (some r) u)):=fun {A G} h=>by
    obtain⟨pre,out,h⟩:=h
    exact⟨A/\pre,out,fun H hr K=>by rw[h H hr K,and_assoc]⟩
   refine conj (conj ?_)
   cases ev σ x with
   | bptr id b off=>
     refine conj ?_
     cases r0 with
     | none=>
       refine⟨False,fun _ _=>True,fun H hr K=>?_⟩
       have hr:H r=none:=hr
       rw[hr]
       exact⟨fun h=>h.elim,fun h=>h.1.elim⟩
     | some q=>
       cases q with
       | box b' cs=>
         refine⟨b'=b/\off+sz<=cs.length,fun d u=>d= .undef/\u=some (.box b' (setAt cs off (ev σ y).cells)),fun H hr K=>?_⟩
         have hr:H r=some (.box b' cs):=hr
         rw[hr]
         constructor
         ·rintro⟨h1,h2,h3⟩
          exact⟨⟨h1,h2⟩,fun d u ⟨e1,e2⟩=>by subst e1;subst e2;exact h3⟩
         ·rintro⟨⟨h1,h2⟩,h3⟩
          exact⟨h1,h2,h3 _ _ ⟨rfl,rfl⟩⟩
       | row x' el' n' es=>
         refine⟨False,fun _ _=>True,fun H hr K=>?_⟩
         have hr:H r=some (.row x' el' n' es):=hr
         rw[hr]
         exact⟨fun h=>h.elim,fun h=>h.1.elim⟩
       | iter b' s' p'=>
         refine⟨False,fun _ _=>True,fun H hr K=>?_⟩
         have hr:H r=some (.iter b' s' p'):=hr
         rw[hr]
         exact⟨fun h=>h.elim,fun h=>h.1.elim⟩
       | tbox b' s' p'=>
         refine⟨False,fun _ _=>True,fun H hr K=>?_⟩
         have hr:H r=some (.tbox b' s' p'):=hr
         rw[hr]
         exact⟨fun h=>h.elim,fun h=>h.1.elim⟩
       | mrow x' es'=>
         refine⟨False,fun _ _=>True,fun H hr K=>?_⟩
         have hr:H r=some (.mrow x' es'):=hr
         rw[hr]
         exact⟨fun h=>h.elim,fun h=>h.1.elim⟩
       | miter b' c' l'=>
         refine⟨False,fun _ _=>True,fun H hr K=>?_⟩
         have hr:H r=some (.miter b' c' l'):=hr
         rw[hr]
         exact⟨fun h=>h.elim,fun h=>h.1.elim⟩
   | eptr id v n i off=>
     refine conj ?_
     cases r0 with
     | none=>
       refine⟨False,fun _ _=>True,fun H hr K=>?_⟩
       have hr:H r=none:=hr
       rw[hr]
       exact⟨fun h=>h.elim,fun h=>h.1.elim⟩
     | some q=>
       cases q with
       | row x' el' n' es=>
         refine⟨x'=v/\n'=n/\0 < n/\off+sz<=n/\i < es.length,fun d u=>d= .undef/\∃e,es[i]? =some e/\u=some (.row x' el' n' (es.set i (if off=0/\sz=n then ev σ y else .agg (setAt e.cells off (ev σ y).cells)))),fun H hr K=>?_⟩
         have hr:H r=some (.row x' el' n' es):=hr
         rw[hr]
         constructor
         ·rintro⟨h1,h2,h3,h4,h5,h6⟩
          exact⟨⟨h1,h2,h3,h4,h5⟩,fun d u ⟨e1,e,e2,e3⟩=>by subst e1;subst e3;exact h6 e e2⟩
         ·rintro⟨⟨h1,h2,h3,h4,h5⟩,h6⟩
          exact⟨h1,h2,h3,h4,h5,fun e he=>h6 _ _ ⟨rfl,e,he,rfl⟩⟩
       | box b' cs=>
         refine⟨False,fun _ _=>True,fun H hr K=>?_⟩
         have hr:H r=some (.box b' cs):=hr
         rw[hr]
         exact⟨fun h=>h.elim,fun h=>h.1.elim⟩
       | iter b' s' p'=>
         refine⟨False,fun _ _=>True,fun H hr K=>?_⟩
         have hr:H r=some (.iter b' s' p'):=hr
         rw[hr]
         exact⟨fun h=>h.elim,fun h=>h.1.elim⟩
       | tbox b' s' p'=>
         refine⟨False,fun _ _=>True,fun H hr K=>?_⟩
         have hr:H r=some (.tbox b' s' p'):=hr
         rw[hr]
         exact⟨fun h=>h.elim,fun h=>h.1.elim⟩
       | mrow x' es'=>
         refine⟨False,fun _ _=>True,fun H hr K=>?_⟩
         have hr:H r=some (.mrow x' es'):=hr
         rw[hr]
         exact⟨fun h=>h.elim,fun h=>h.1.elim⟩
       | miter b' c' l'=>
         refine⟨False,fun _ _=>True,fun H hr K=>?_⟩
         have hr:H r=some (.miter b' c' l'):=hr
         rw[hr]
         exact⟨fun h=>h.elim,fun h=>h.1.elim⟩
   | _=>exact no
  have hw:c.wid dst=dst:=by
   cases c
   case callb r f args=>exact absurd ⟨r,f,args,rfl⟩ hb
   case append rt el n b x y=>
    cases rt with
    | none=>rfl
    | some r=>exact absurd ⟨r,el,n,b,x,y,rfl⟩ h
   case store rt sz x y=>
    cases rt with
    | none=>rfl
    | some r=>exact absurd ⟨r,sz,x,y,rfl⟩ hs
   all_goals rfl
  rw[hw]
  exact(VS S c dst σ Hr (fun r el n b x y e=>h ⟨r,el,n,b,x,y,e⟩) (fun r sz x y e=>hs ⟨r,sz,x,y,e⟩) (fun r f args e=>hb ⟨r,f,args,e⟩)).lin1
theorem H3(S:Nat->Spc)(c:COp)(dst:Option Nat)(σ:Sg)(Hr:ab):qdX (c.wid dst) fun H K=>av S c dst σ Hr H K:=by
 by_cases hb:∃r f args,c= .callb r f args
 ·obtain⟨r,f,args,rfl⟩:=hb
  intro r0
  simp only[av,COp.wid]
  have no:∃ (pre:Prop) (out:D->List (Nat×Res)->Prop),∀H,pF H (some r)=r0->∀K:D->ab->Prop,False↔ (pre/\∀d u,out d u->K d (fD H (some r) u)):=⟨False,fun _ _=>True,fun _ _ _=>⟨fun h=>h.elim,fun h=>h.1⟩⟩
  cases hs:S f with
  | none=>exact no
  | pure pc=>exact no
  | gen A hA=>
    by_cases hx:qdY r A (args.map (ev σ))
    ·obtain⟨p,o,h⟩:=id hx
     refine⟨p r0,fun d u=>o r0 d u,fun H hr K=>?_⟩
     simp only[Hs]
     rw[h,hr]
     exact⟨fun h=>h.2,fun h=>⟨hx,h⟩⟩
    ·exact⟨False,fun _ _=>True,fun H _ K=>⟨fun h=>absurd h.1 hx,fun h=>h.1.elim⟩⟩
 ·exact(VR S c dst σ Hr hb).lin
theorem H4(S:Nat->Spc)(x:CI)(σ:Sg)(Hr:ab):qdX x.wid fun H K=>JC S x σ Hr H K:=by
 cases x with
 | frz t n=>exact(az _).lin
 | op dst g c=>
   intro r0
   obtain⟨pre,out,h⟩:=H3 S c dst σ Hr r0
   have h':∀H,pF H (c.wid dst)=r0->∀K,av S c dst σ Hr H K↔ (pre/\∀d u,out d u->K d (fD H (c.wid dst) u)):=h
   cases g with
   | none=>exact⟨pre,out,h⟩
   | some sb=>
     obtain⟨s,b⟩:=sb
     simp only[JC,CI.wid]
     split
     ·rename_i t e1
      refine⟨t=b->pre,fun d u=>(t=b/\out d u)\/(t=(!b)/\d= .undef/\u=[]),fun H hr K=>?_⟩
      rw[h' H hr K]
      constructor
      ·rintro⟨h1,h2⟩
       refine⟨fun e=>(h1 e).1,fun d u hd=>?_⟩
       rcases hd with⟨e,hd⟩|⟨e,rfl,rfl⟩
       ·exact(h1 e).2 d u hd
       ·rw[qX];exact h2 e
      ·rintro⟨h1,h2⟩
       refine⟨fun e=>⟨h1 e,fun d u hd=>h2 d u (.inl ⟨e,hd⟩)⟩,fun e=>?_⟩
       have:=h2 .undef [] (.inr ⟨e,rfl,rfl⟩)
       rwa [qX]at this
     ·exact⟨True,fun d u=>d= .undef/\u=[],fun H _ K=>⟨fun h=>⟨trivial,fun d u ⟨h1,h2⟩=>by subst h1;subst h2;rw[qX];exact h⟩,fun h=>by have:=h.2 .undef [] ⟨rfl,rfl⟩;rwa [qX]at this⟩⟩
     ·exact(az _).lin r0
theorem Au{σ σ':Sg} :∀ (ps:List (Nat×Nat×Operand)) (cs:List D) (K:List D->Prop),(∀x∈ps.map (·.2.2),ev σ x=ev σ' x)->(ju σ ps cs K↔ju σ' ps cs K)
 | [],cs,K,_=>quJ
 | (off,sz,x)::r,cs,K,h=>by
  have hx:=h x (by simp)
  simp only[ju,hx]
  rw[Au r _ K (fun y hy=>h y (by simp at hy ⊢;exact .inr hy))]
theorem AR{c:COp}{σ σ':Sg}{Hr:ab}{K:D->Prop}(h:∀x∈c.ops,ev σ x=ev σ' x):ak c σ Hr K↔ak c σ' Hr K:=by
 cases c
 case build z ps=>simp only[ak];exact Au ps _ _ h
 case box el im x=>cases im <;> simp only[ak];rw[h x (by simp[COp.ops])]
 case bslice el n ps=>
  have h':∀x∈ps,ev σ x=ev σ' x:=h
  simp only[ak];rw[quQ h']
 case clo f caps=>
  have h':∀x∈caps,ev σ x=ev σ' x:=h
  simp only[ak];rw[quQ h']
 case slice n x lo hi=>
  simp only[ak]
  rw[h x (by simp[COp.ops])]
  have h1:lo.map (fun o=>tt (ev σ o))=lo.map (fun o=>tt (ev σ' o)):=by cases lo <;> simp;rw[h _ (by simp[COp.ops])]
  have h2:hi.map (fun o=>tt (ev σ o))=hi.map (fun o=>tt (ev σ' o)):=by cases hi <;> simp;rw[h _ (by simp[COp.ops])]
  rw[h1,h2]
 case sslice x lo hi=>
  simp only[ak]
  rw[h x (by simp[COp.ops])]
  have h1:lo.map (fun o=>tt (ev σ o))=lo.map (fun o=>tt (ev σ' o)):=by cases lo <;> simp;rw[h _ (by simp[COp.ops])]
  have h2:hi.map (fun o=>tt (ev σ o))=hi.map (fun o=>tt (ev σ' o)):=by cases hi <;> simp;rw[h _ (by simp[COp.ops])]
  rw[h1,h2]
 case m mo xs=>
  have h':∀x∈xs,ev σ x=ev σ' x:=h
  simp only[ak];rw[quQ h']
 case mm mx xs=>
  match xs with
  | []=>simp[ak]
  | [x]=>simp[ak]
  | [x,y]=>simp only[ak];rw[h x (by simp[COp.ops]),h y (by simp[COp.ops])]
  | [x,y,z]=>simp only[ak];rw[h x (by simp[COp.ops]),h y (by simp[COp.ops]),h z (by simp[COp.ops])]
  | _::_::_::_::_=>simp[ak]
 case pick q x y=>simp only[ak];rw[h q (by simp[COp.ops]),h x (by simp[COp.ops]),h y (by simp[COp.ops])]
 all_goals simp only[ak]
 all_goals first
  | (rename_i x;rw[h x (by simp[COp.ops])];done)
  | (rename_i x y;rw[h x (by simp[COp.ops]),h y (by simp[COp.ops])];done)
  | (rename_i x i;rw[h x (by simp[COp.ops])];done)
  | skip
theorem Vi{S:Nat->Spc}{c:COp}{dst:Option Nat}{σ σ':Sg}{Hr H:ab}{K:D->ab->Prop}(h:∀x∈c.ops,ev σ x=ev σ' x):av S c dst σ Hr H K↔av S c dst σ' Hr H K:=by
 cases c
 case call f args=>
  simp only[av]
  rw[quQ (fun x hx=>h x (by simpa [COp.ops]using hx))]
 case callv f args=>
  simp only[av]
  rw[h f (by simp[COp.ops]),quQ (fun x hx=>h x (by simp[COp.ops,hx]))]
 case callb r f args=>
  simp only[av]
  rw[quQ (fun x hx=>h x (by simpa [COp.ops]using hx))]
 case alloc el z=>exact quJ
 case box el im x=>
  cases im with
  | true=>exact(iE rfl).trans ((AR h).trans (iE rfl).symm)
  | false=>simp only[av,bi];rw[h x (by simp[COp.ops])]
 case tbx el x=>simp only[av,bi];rw[h x (by simp[COp.ops])]
 case nslice el n=>exact quJ
 case mslice el n ps=>
  have h':∀x∈ps,ev σ x=ev σ' x:=h
  simp only[av,bi];rw[quQ h']
 case mkslice el n b agg z l cc=>simp only[av,bi];rw[h l (by simp[COp.ops]),h cc (by simp[COp.ops])]
 case store rt sz x y=>simp only[av];rw[h x (by simp[COp.ops]),h y (by simp[COp.ops])]
 case srange x=>exact quJ
 case snext x=>exact quJ
 case append rt el n b x y=>
  simp only[av]
  rw[h x (by simp[COp.ops]),h y (by simp[COp.ops])]
 case clear n agg z x=>exact quJ
 case copy n x y=>exact quJ
 case appmk el n b agg z x c=>simp only[av,bi];rw[h x (by simp[COp.ops]),h c (by simp[COp.ops])]
 case m mo xs=>
  have h':∀x∈xs,ev σ x=ev σ' x:=h
  cases mo <;> first
   | exact(iE rfl).trans ((AR h).trans (iE rfl).symm)
   | exact quJ
   | (simp only[av,bi];rw[quQ h'])
 all_goals exact(iE rfl).trans ((AR h).trans (iE rfl).symm)
def qd6:Operand->List Nat
 | .tmp t=>[t]
 | _=>[]
def CI.reads:CI->List Nat
 | .op _ g c=>c.ops.flatMap qd6++ (match g with|some (s,_)=>[s]|none=>[])
 | .frz _ _=>[]
theorem DY{S:Nat->Spc}{x:CI}{σ σ':Sg}{Hr H:ab}{K:D->ab->Prop}(h:∀t∈x.reads,σ t=σ' t):JC S x σ Hr H K↔JC S x σ' Hr H K:=by
 cases x with
 | frz t n=>exact quJ
 | op dst g c=>
   have hev:∀y∈c.ops,ev σ y=ev σ' y:=fun y hy=>by
    cases y with
    | tmp t=>exact h t (by simp only[CI.reads,qtK,quM];exact .inl ⟨_,hy,by simp[qd6]⟩)
    | _=>rfl
   have hp:=Vi (S:=S) (dst:=dst) (Hr:=Hr) (H:=H) (K:=K) hev
   cases g with
   | none=>exact hp
   | some sb=>
     obtain⟨s,b⟩:=sb
     simp only[JC]
     rw[<-h s (by simp[CI.reads])]
     split
     ·rw[hp]
     ·exact quJ
     ·exact quJ
end Go.Gv
