/- A part of the framework and of the walks: T3. -/
import Derived.Test.YtfbleenmepoodaaGreatDoorGa11
set_option linter.unusedSimpArgs false
set_option linter.unusedVariables false
set_option linter.unusedSectionVars false
set_option linter.defProp false
namespace Go.Gv
def COp.ops:COp->List Operand
 | .mv x| .box _ _ x| .tbx _ x| .load _ _ x| .nilck x| .not x| .neg x| .conv _ x| .faddr _ x| .fld _ _ _ x| .ext x _| .len x| .slen x=>[x]
 | .pick c x y=>[c,x,y]
 | .alloc _ _| .nslice _ _| .bad=>[]
 | .build _ ps=>ps.map (·.2.2)
 | .bslice _ _ ps=>ps
 | .mslice _ _ ps=>ps
 | .store _ _ x y| .arith _ x y| .cmp _ x y| .eql _ _ _ x y| .scat x y| .iaddr _ x y| .sidx x y| .append _ _ _ _ x y=>[x,y]
 | .clo _ xs| .mm _ xs| .call _ xs| .callb _ _ xs=>xs
 | .appmk _ _ _ _ _ x y| .copy _ x y=>[x,y]
 | .clear _ _ _ x| .cap x| .srange x| .snext x| .sbytes x| .srunes x| .bstr x| .rstr x| .mkif _ x=>[x]
 | .mkslice _ _ _ _ _ l c=>[l,c]
 | .slice _ x lo hi| .sslice x lo hi=>x::lo.toList++hi.toList
 | .callv f xs=>f::xs
 | .m _ xs=>xs
def qck(A:PT):Prop:=∃ (p:List D->Prop) (o:Nat->List D->D->Res->Prop),∀ (t:Nat) (ds:List D) (H:aa) (K:D->aa->Prop),A t ds H K↔ (p ds/\∀d u,o t ds d u->K d (aj H t (some u)))
def LP(dst:Option Nat)(s:Spc)(args:List D)(H:aa)(K:D->aa->Prop):Prop:=match s with
 | .pure pc=>pc.pre args/\∀r,pc.post args r->K r H
 | .gen A _=>match dst with
   | some t=>qck A/\A t args H K
   | none=>False
 | .none=>False
def Hn(i:Nat):Nat:=if 990<=i/\i < 1000 then 0 else i
def vt(wid:Option Nat)(i:Nat):Prop:=match wid with|some t=>Hn i=Hn t|none=>False
instance (wid:Option Nat) (i:Nat):Decidable (vt wid i):=by unfold vt;split <;> infer_instance
def nB(H:aa)(wid:Option Nat):aa:=λi=>if vt wid i then H i else none
def fQ(H:aa)(wid:Option Nat)(u:List (Nat×Res)):aa:=λi=>if vt wid i then(match u.lookup i with|some r=>some r|none=>H i)else H i
def YC(r:Nat)(A:PT)(args:List D):Prop:=∃ (p:aa->Prop) (o:aa->D->List (Nat×Res)->Prop),∀ (t:Nat) (H:aa) (K:D->aa->Prop),A t args H K↔ (p (nB H (some r))/\∀d u,o (nB H (some r)) d u->K d (fQ H (some r) u))
def Fd(r:Nat)(dst:Option Nat)(s:Spc)(args:List D)(H:aa)(K:D->aa->Prop):Prop:=match s with
 | .gen A _=>YC r A args/\A (dst.getD 0) args H K
 | _=>False
def au(S:Nat->Spc)(c:COp)(dst:Option Nat)(σ:Sg)(Hr H:aa)(K:D->aa->Prop):Prop:=
 match c with
 | .call f args=>LP dst (S f) (args.map (ev σ)) H K
 | .callb r f args=>Fd r dst (S f) (args.map (ev σ)) H K
 | .callv f args=>match ev σ f with
   | .clo g caps=>match S g with
     | .pure pc=>pc.pre (args.map (ev σ) ++caps)/\∀r,pc.post (args.map (ev σ) ++caps) r->K r H
     | _=>False
   | _=>False
 | .alloc el z=>aP (.alloc el z) dst σ H K
 | .box el false x=>aP (.box el false x) dst σ H K
 | .tbx el x=>aP (.tbx el x) dst σ H K
 | .nslice el n=>aP (.nslice el n) dst σ H K
 | .mslice el n ps=>aP (.mslice el n ps) dst σ H K
 | .mkslice el n b agg z l c=>aP (.mkslice el n b agg z l c) dst σ H K
 | .append rt el n b x y=>ov n (ev σ y) Hr λes2=>match rt with
   | none=>match dst,ev σ x with
     | some t, .v (.slice none 0 0)=>es2.length*b<=140737488355328/\es2.length<=140737488355328/\∀v,K (.own t v) (aj H t (some (.row v el n es2)))
     | _,_=>False
   | some r=>match ev σ x with
     | .own id x=>id=r/\match H r with
       | some (.row x' el' n' es)=>x'=x/\el'=el/\n'=n/\(es.length+es2.length) *b<=140737488355328/\es.length+es2.length<=140737488355328/\∀v,K (.own r v) (aj H r (some (.row v el n (es++es2))))
       | _=>False
     | _=>False
 | .store rt sz x y=>(ev σ y).kn=true/\(ev σ y).cells.length=sz/\match rt with
   | none=>False
   | some r=>match ev σ x with
     | .bptr id b off=>id=r/\match H r with
       | some (.box b' cells)=>b'=b/\off+sz<=cells.length/\K .undef (aj H r (some (.box b' (setAt cells off (ev σ y).cells))))
       | _=>False
     | .eptr id x n i off=>id=r/\match H r with
       | some (.row x' el n' es)=>x'=x/\n'=n/\0 < n/\off+sz<=n/\i < es.length/\∀d,es[i]? =some d->
          K .undef (aj H r (some (.row x' el n' (es.set i (if off=0/\sz=n then ev σ y else .agg (setAt d.cells off (ev σ y).cells))))))
       | _=>False
     | _=>False
 | .clear .. | .copy .. | .srange .. | .snext .. =>False
 | .appmk el n b agg z x c=>aP (.appmk el n b agg z x c) dst σ H K
 | .m .mk xs=>aP (.m .mk xs) dst σ H K
 | c=>ah c σ Hr λd=>K d H
def COp.wid(c:COp)(dst:Option Nat):Option Nat:=
 match c with
 | .append (some r) _ _ _ _ _=>some r
 | .store (some r) _ _ _=>some r
 | .callb r _ _=>some r
 | _=>dst
def CI.wid:CI->Option Nat
 | .op d _ c=>c.wid d
 | .frz _ _=>none
def aU:List CI->aa->aa
 | [],H=>H
 | .frz _ _::_,H=>H
 | .op d g c::l,H=>λi=>if vt (CI.op d g c).wid i then none else aU l H i
def gh(S:Nat->Spc):List CI->Sg->aa->aa->(Sg->aa->Prop)->Prop
 | [],σ,_,H,K=>K σ H
 | .frz _ _::r,σ,Hr,H,K=>gh S r σ (aU r Hr) H K
 | .op dst g c::r,σ,Hr,H,K=>iG g σ (λσ=>au S c dst σ Hr H λd H'=>gh S r (du σ dst d) Hr H' K) (λσ=>gh S r (du σ dst .undef) Hr H K)
def Ep(S:Nat->Spc)(x:CI)(σ:Sg)(Hr H:aa)(K:D->aa->Prop):Prop:=
 match x with
 | .frz _ _=>False
 | .op dst g c=>match g with
   | none=>au S c dst σ Hr H K
   | some (s,b)=>match σ s with
     | .v (.bool t)=>(t=b->au S c dst σ Hr H K)/\(t=(!b)->K .undef H)
     | .undef=>K .undef H
     | _=>False
def CI.dst:CI->Option Nat
 | .op d _ _=>d
 | .frz _ _=>none
def Tg(S:Nat->Spc):List (CI×aa)->Sg->aa->(Sg->aa->Prop)->Prop
 | [],σ,H,K=>K σ H
 | x::r,σ,H,K=>Ep S x.1 σ x.2 H λd H'=>Tg S r (du σ x.1.dst d) H' K
def H8(F:(D->Prop)->Prop):Prop:=∃ (pre:Prop) (out:D->Prop),∀K,F K↔ (pre/\∀d,out d->K d)
def aM(d:D):H8 λK=>K d:=⟨True,λe=>e=d,λK=>⟨λh=>⟨trivial,λe he=>he ▸h⟩,λh=>h.2 d rfl⟩⟩
def dO:H8 λ_=>False:=⟨False,λ_=>True,λK=>⟨λh=>h.elim,λh=>h.1⟩⟩
def ar{A:Prop}{F:(D->Prop)->Prop}(h:H8 F):H8 λK=>A/\F K:=by
 obtain⟨pre,out,h⟩:=h;exact⟨A/\pre,out,λK=>by dsimp only;rw[h K,and_assoc]⟩
def fY{A:Prop}{F:(D->Prop)->Prop}(h:H8 F):H8 λK=>A->F K:=by
 obtain⟨pre,out,h⟩:=h;refine⟨A->pre,λd=>A/\out d,λK=>?_⟩;constructor
 ·intro hf;exact⟨λha=>((h K).1 (hf ha)).1,λd hd=>((h K).1 (hf hd.1)).2 d hd.2⟩
 ·intro hf ha;exact(h K).2 ⟨hf.1 ha,λd hd=>hf.2 d ⟨ha,hd⟩⟩
def mU{α:Type}{F:α->(D->Prop)->Prop}(h:∀x,H8 (F x)):H8 λK=>∀x,F x K:=by
 have h':∀x,∃ (p:Prop× (D->Prop)),∀K,F x K↔ (p.1/\∀d,p.2 d->K d):=λx=>by
  obtain⟨pre,out,hx⟩:=h x;exact⟨(pre,out),hx⟩
 obtain⟨p,hp⟩:=qle h';refine⟨∀x,(p x).1,λd=>∃x,(p x).2 d,λK=>?_⟩;constructor
 ·intro hf;exact⟨λx=>((hp x K).1 (hf x)).1,λd ⟨x,hx⟩=>((hp x K).1 (hf x)).2 d hx⟩
 ·intro hf x;exact(hp x K).2 ⟨hf.1 x,λd hd=>hf.2 d ⟨x,hd⟩⟩
def JV{F G:(D->Prop)->Prop}(h1:H8 F)(h2:H8 G):H8 λK=>F K/\G K:=by
 obtain⟨p1,o1,h1⟩:=h1;obtain⟨p2,o2,h2⟩:=h2;refine⟨p1/\p2,λd=>o1 d\/o2 d,λK=>?_⟩;dsimp only;rw[h1 K,h2 K];constructor
 ·rintro⟨⟨a,b⟩,c,d⟩;exact⟨⟨a,c⟩,λe he=>he.elim (b e) (d e)⟩
 ·rintro⟨⟨a,c⟩,b⟩;exact⟨⟨a,λe he=>b e (.inl he)⟩,c,λe he=>b e (.inr he)⟩
def Fm(σ:Sg):∀ (ps:List (Nat×Nat×Operand)) (cs:List D),H8 λK=>gg σ ps cs λcs=>K (.agg cs)
 | [],cs=>aM _
 | (off,sz,x)::r,cs=>ar (ar (Fm σ r _))
def OR(op:BinOp)(k:IntKind)(a b:Int):H8 λK=>ez op k a b K:=by
 cases op <;> simp only[ez] <;> first
  | exact dO
  | exact aM _
  | exact ar (aM _)
  | exact ar (ar (aM _))
def Hg(lo hi:Option (Option (IntKind×Int)))(len:Nat)(f:Nat->Nat->D):H8 λK=>lK lo hi len λl h=>K (f l h):=by
 unfold lK;split <;> first
  | exact aM _
  | exact ar (ar (aM _))
  | exact ar (ar (ar (aM _)))
  | exact dO
def Nj{d:D}{H:aa}{F:List D->(D->Prop)->Prop}(h:∀es,H8 (F es)):H8 λK=>yt d H λes=>F es K:=by
 unfold yt;split
 ·exact h _
 ·exact h _
 ·split
  ·exact ar (h _)
  ·exact dO
 ·exact dO
def Ni(o:MOp)(ds:List D)(H:aa):H8 λK=>qq o ds H K:=by
 unfold qq;split
 ·exact Nj λes=>ar (ar (JV (mU λk'=>mU λv=>fY (fY (aM _))) (fY (aM _))))
 ·exact Nj λes=>aM _
 ·split
  ·exact ar (ar (aM _))
  ·unfold NG;split
   ·split
    ·exact ar (ar (ar (ar (ar (mU λ_=>mU λ_=>fY (fY (aM _)))))))
    ·exact ar (ar (ar (ar dO)))
   ·exact ar (ar dO)
  ·exact ar dO
 ·refine ar (ar ?_);unfold RS;split <;> first|exact aM _|exact dO
 ·exact dO
theorem JU(c:COp)(σ:Sg)(Hr:aa):H8 λK=>ah c σ Hr K:=by
 unfold ah;split <;> first
  | exact aM _
  | exact dO
  | exact Fm σ _ _
  | exact ar (aM _)
  | skip
 all_goals
  (repeat' split) <;> first
    | exact aM _
    | exact dO
    | exact JV (fY (aM _)) (fY (aM _))
    | exact ar (aM _)
    | exact ar (ar (aM _))
    | exact ar (ar (ar (aM _)))
    | exact ar (ar (ar (ar (aM _))))
    | exact ar (ar (ar (ar (mU λ_=>fY (aM _)))))
    | exact ar (ar (ar (mU λ_=>fY (aM _))))
    | exact ar (ar (mU λ_=>fY (aM _)))
    | exact ar (OR _ _ _ _)
    | exact fY (aM _)
    | exact ar (fY (aM _))
    | exact ar dO
    | exact ar (ar (Hg _ _ _ _))
    | exact ar (Hg _ _ _ _)
    | exact Hg _ _ _ λ_ _=>_
    | exact Ni _ _ _
    | skip
def pp(H:aa)(dst:Option Nat)(u:Option Res):aa:=
 match dst,u with
 | some t,some r=>aj H t (some r)
 | _,_=>H
def LinU0(dst:Option Nat)(F:aa->(D->aa->Prop)->Prop):Prop:=
 ∃ (pre:Prop) (out:D->Option Res->Prop),∀H K,F H K↔ (pre/\∀d u,out d u->K d (pp H dst u))
def Bc(H:aa):Option Nat->Option Res
 | some t=>H t
 | none=>none
def LinU1(wid:Option Nat)(F:aa->(D->aa->Prop)->Prop):Prop:=
 ∀r0,∃ (pre:Prop) (out:D->Option Res->Prop),∀H,Bc H wid=r0->∀K,F H K↔ (pre/\∀d u,out d u->K d (pp H wid u))
def LinU0.lin1{dst:Option Nat}{F:aa->(D->aa->Prop)->Prop}(h:LinU0 dst F):LinU1 dst F:=λ_=>by
 obtain⟨pre,out,h⟩:=h;exact⟨pre,out,λH _ K=>h H K⟩
def DR(H:aa)(dst:Option Nat):pp H dst none=H:=by cases dst <;> rfl
def Hh{dst:Option Nat}{G:(D->Prop)->Prop}(h:H8 G):LinU0 dst λH K=>G λd=>K d H:=by
 obtain⟨pre,out,h⟩:=h;refine⟨pre,λd u=>out d/\u=none,λH K=>?_⟩;dsimp only;rw[h];constructor
 ·rintro⟨a,b⟩;exact⟨a,λd u ⟨h1,h2⟩=>by subst h2;rw[DR];exact b d h1⟩
 ·rintro⟨a,b⟩;exact⟨a,λd h1=>by have:=b d none ⟨h1,rfl⟩;rwa [DR]at this⟩
def av(dst:Option Nat):LinU0 dst λ_ _=>False:=⟨False,λ_ _=>True,λ_ _=>⟨λh=>h.elim,λh=>h.1⟩⟩
def jA{t:Nat}{α:Type}{A:Prop}(f:α->D)(r:α->Res):LinU0 (some t) λH K=>A/\∀b,K (f b) (aj H t (some (r b))):=by
 refine⟨A,λd u=>∃b,d=f b/\u=some (r b),λH K=>?_⟩;constructor
 ·rintro⟨a,h⟩;exact⟨a,λd u ⟨b,h1,h2⟩=>by subst h1;subst h2;exact h b⟩
 ·rintro⟨a,h⟩;exact⟨a,λb=>h _ _ ⟨b,rfl,rfl⟩⟩
def LinU0.congr{dst:Option Nat}{F G:aa->(D->aa->Prop)->Prop}(h:LinU0 dst F)(hfg:∀H K,G H K↔F H K):LinU0 dst G:=by
 obtain⟨pre,out,h⟩:=h;exact⟨pre,out,λH K=>(hfg H K).trans (h H K)⟩
def eX{S:Nat->Spc}{c:COp}{dst:Option Nat}{σ:Sg}{Hr H:aa}{K:D->aa->Prop}(h:c.isRead=true):au S c dst σ Hr H K↔ah c σ Hr λd=>K d H:=by
 cases c <;> first|exact qkt|(simp[COp.isRead]at h;done)|skip
 ·rename_i el im x;cases im
  ·simp[COp.isRead]at h
  ·exact qkt
 ·rename_i mo xs;cases mo <;> first|(simp[COp.isRead,MOp.isRead]at h;done)|exact qkt
def Rm{dst:Option Nat}{n:Nat}{d:D}{Hr:aa}{F:List D->aa->(D->aa->Prop)->Prop}(h:∀es,LinU0 dst (F es)):LinU0 dst λH K=>gi n d Hr λes=>F es H K:=by
 have conj:∀ {A:Prop} {G:aa->(D->aa->Prop)->Prop},LinU0 dst G->LinU0 dst λH K=>A/\G H K:=λ{A G} h=>by
  obtain⟨pre,out,h⟩:=h;exact⟨A/\pre,out,λH K=>by dsimp only;rw[h H K,and_assoc]⟩
 unfold gi;split
 ·exact conj (h _)
 ·split
  ·exact conj (conj (h _))
  ·exact av _
 ·exact h _
 ·split
  ·exact conj (conj (conj (h _)))
  ·exact av _
 ·exact av _
def OS{dst:Option Nat}{n:Nat}{d:D}{Hr:aa}{F:List D->aa->(D->aa->Prop)->Prop}(h:∀es,LinU0 dst (F es)):LinU0 dst λH K=>ov n d Hr λes=>F es H K:=by
 unfold ov;split
 ·rename_i s;obtain⟨pre,out,h⟩:=h (xR s);exact⟨n=1/\pre,out,λH K=>by dsimp only;rw[h H K,and_assoc]⟩
 ·exact Rm h
theorem Rn{wid:Option Nat}{n:Nat}{d:D}{Hr:aa}{r0:Option Res}{F:List D->aa->(D->aa->Prop)->Prop}
 (h:∀es,∃ (pre:Prop) (out:D->Option Res->Prop),∀H,Bc H wid=r0->∀K,F es H K↔ (pre/\∀d u,out d u->K d (pp H wid u))):
 ∃ (pre:Prop) (out:D->Option Res->Prop),∀H,Bc H wid=r0->∀K,(gi n d Hr λes=>F es H K) ↔ (pre/\∀d u,out d u->K d (pp H wid u)):=by
 have conj:∀ {A:Prop} {G:aa->(D->aa->Prop)->Prop},(∃ (pre:Prop) (out:D->Option Res->Prop),∀H,Bc H wid=r0->∀K,G H K↔ (pre/\∀d u,out d u->K d (pp H wid u)))->
  ∃ (pre:Prop) (out:D->Option Res->Prop),∀H,Bc H wid=r0->∀K,(A/\G H K) ↔ (pre/\∀d u,out d u->K d (pp H wid u)):=λ{A G} h=>by
  obtain⟨pre,out,h⟩:=h;exact⟨A/\pre,out,λH hr K=>by rw[h H hr K,and_assoc]⟩
 have no:∃ (pre:Prop) (out:D->Option Res->Prop),∀H,Bc H wid=r0->∀K:D->aa->Prop,False↔ (pre/\∀d u,out d u->K d (pp H wid u)):=⟨False,λ_ _=>True,λ_ _ _=>⟨λh=>h.elim,λh=>h.1⟩⟩
 unfold gi;split
 ·exact conj (h _)
 ·split
  ·exact conj (conj (h _))
  ·exact no
 ·exact h _
 ·split
  ·exact conj (conj (conj (h _)))
  ·exact no
 ·exact no
def OV{wid:Option Nat}{n:Nat}{d:D}{Hr:aa}{r0:Option Res}{F:List D->aa->(D->aa->Prop)->Prop}
 (h:∀es,∃ (pre:Prop) (out:D->Option Res->Prop),∀H,Bc H wid=r0->∀K,F es H K↔ (pre/\∀d u,out d u->K d (pp H wid u))):
 ∃ (pre:Prop) (out:D->Option Res->Prop),∀H,Bc H wid=r0->∀K,(ov n d Hr λes=>F es H K) ↔ (pre/\∀d u,out d u->K d (pp H wid u)):=by
 unfold ov;split
 ·rename_i s;obtain⟨pre,out,h⟩:=h (xR s);exact⟨n=1/\pre,out,λH hr K=>by dsimp only;rw[h H hr K,and_assoc]⟩
 ·exact Rn h
theorem OU(S:Nat->Spc)(c:COp)(dst:Option Nat)(σ:Sg)(Hr:aa)(hna:∀r el n b x y,c≠ .append (some r) el n b x y)(hns:∀r sz x y,c≠ .store (some r) sz x y)(hnb:∀r f args,c≠ .callb r f args):LinU0 dst λH K=>au S c dst σ Hr H K:=by
 by_cases hro:c.isRead=true
 ·exact(Hh (JU c σ Hr)).congr λH K=>eX hro
 cases c
 case call f args=>
  simp only[au];cases S f with
  | pure pc=>exact Hh (G:=λK=>pc.pre (args.map (ev σ))/\∀r,pc.post (args.map (ev σ)) r->K r) (ar (mU λr=>fY (aM r)))
  | none=>exact av dst
  | gen A hA=>
    cases dst with
    | none=>exact av none
    | some t=>
      by_cases hf:qck A
      ·obtain⟨p,o,h⟩:=id hf;refine⟨p (args.map (ev σ)),λd u=>∃u',u=some u'/\o t (args.map (ev σ)) d u',λH K=>?_⟩;simp only[LP];rw[h t];constructor
       ·rintro⟨_,a,b⟩;exact⟨a,λd u ⟨u',e,h1⟩=>by subst e;exact b d u' h1⟩
       ·rintro⟨a,b⟩;exact⟨hf,a,λd u h1=>b d (some u) ⟨u,rfl,h1⟩⟩
      ·exact(av (some t)).congr λH K=>⟨λh=>hf h.1,λh=>h.elim⟩
 case callb r f args=>exact absurd rfl (hnb r f args)
 case callv f args=>
  simp only[au];split
  ·rename_i g caps _;split
   ·rename_i pc _;exact Hh (G:=λK=>pc.pre (args.map (ev σ) ++caps)/\∀r,pc.post (args.map (ev σ) ++caps) r->K r) (ar (mU λr=>fY (aM r)))
   ·exact av dst
  ·exact av dst
 case alloc el z=>
  cases dst with
  | none=>simp only[au,aP];exact av _
  | some t=>exact(jA (t:=t) (A:=True) (λb=>D.bptr t b 0) (λb=>Res.box b (z.map lL))).congr (λH K=>by simp only[au,aP,true_and])
 case box el im x=>
  cases im with
  | true=>exact absurd rfl hro
  | false=>
    cases dst with
    | none=>simp only[au,aP];exact av _
    | some t=>exact(jA (t:=t) (A:=(ev σ x).kn=true) (λb=>D.bptr t b 0) (λb=>Res.box b (ev σ x).cells)).congr (λH K=>by simp only[au,aP])
 case tbx el x=>
  cases dst with
  | none=>simp only[au,aP];exact av _
  | some t=>exact(jA (t:=t) (A:=(ev σ x).kn=true) (λb=>D.bptr t b 0) (λb=>Res.tbox el b (ev σ x).cells)).congr (λH K=>by simp only[au,aP])
 case nslice el n=>
  cases dst with
  | none=>simp only[au,aP];exact av _
  | some t=>exact(jA (t:=t) (A:=True) (λx=>D.own t x) (λx=>Res.row x el n [])).congr (λH K=>by simp only[au,aP,true_and])
 case mslice el n ps=>
  cases dst with
  | none=>simp only[au,aP];exact av _
  | some t=>exact(jA (t:=t) (A:=fW n (ps.map (ev σ))) (λx=>D.own t x) (λx=>Res.row x el n (ps.map (ev σ)))).congr (λH K=>by simp only[au,aP])
 case mkslice el n b agg z l cc=>
  cases dst with
  | none=>simp only[au,aP];exact av _
  | some t=>
    simp only[au,aP];split
    ·rename_i e1 e2;rename_i k1 l' k2 c';exact(jA (t:=t) (A:=0<=l'/\l'<=c'/\b*c'<=140737488355328/\c'<=140737488355328) (λx=>D.own t x) (λx=>Res.row x el n (List.replicate l'.toNat (if agg then .agg (z.map lL)else lL (z.headD (.bool false)))))).congr (λH K=>by simp only[and_assoc])
    ·exact av _
 case store rt sz x y=>
  cases rt with
  | some r=>exact absurd rfl (hns r sz x y)
  | none=>exact(av dst).congr λH K=>⟨λh=>h.2.2.elim,λh=>h.elim⟩
 case srange x=>exact av dst
 case snext x=>exact av dst
 case append rt el n b x y=>
  cases rt with
  | some r=>exact absurd rfl (hna r el n b x y)
  | none=>
    simp only[au];refine OS λes2=>?_
    split
    ·rename_i t _;exact(jA (t:=t) (A:=es2.length*b<=140737488355328/\es2.length<=140737488355328) (λv=>D.own t v) (λv=>Res.row v el n es2)).congr (λH K=>by simp only[and_assoc])
    ·exact av _
 case clear n agg z x=>exact av dst
 case copy n x y=>exact av dst
 case appmk el n b agg z x c=>
  simp only[au,aP];split
  ·cases dst with
   | none=>exact av _
   | some t=>
     cases hc:iB (ev σ c)with
     | none=>exact av _
     | some p=>
       obtain⟨k,c'⟩:=p;exact(jA (t:=t) (A:=0<=c'/\c'*b<=140737488355328/\c'<=140737488355328) (λx=>D.own t x) (λx=>Res.row x el n (List.replicate c'.toNat (La agg z)))).congr (λH K=>by simp only[and_assoc])
  ·exact av _
 case m mo xs=>
  cases mo
  case mk=>
   cases xs with
   | nil=>
     cases dst with
     | none=>exact av _
     | some t=>exact(jA (t:=t) (A:=True) (λx=>D.own t x) (λx=>Res.mrow x [])).congr (λH K=>by simp only[au,aP,jy,qkB,true_and])
   | cons x xs=>exact(av dst).congr λH K=>qkt
  case upd=>exact(av dst).congr λH K=>qkt
  case rng=>exact(av dst).congr λH K=>qkt
  case next=>exact(av dst).congr λH K=>qkt
  case del=>exact(av dst).congr λH K=>qkt
  all_goals exact absurd rfl hro
 all_goals exact absurd rfl hro
def ni(H:aa)(wid:Option Nat):fQ H wid []=H:=by
 funext i;simp only[fQ,List.lookup];split <;> rfl
def SH(H:aa)(t:Nat)(r:Res):fQ H (some t) [(t,r)]=aj H t (some r):=by
 funext i;simp only[fQ,aj];by_cases h:i=t
 ·subst h;rw[if_pos (show vt (some i) i from rfl),if_pos rfl];simp[List.lookup]
 ·rw[if_neg h];have:([(t,r)]:List (Nat×Res)).lookup i=none:=by
   have e:(i==t)=false:=by simp[h]
   simp only[List.lookup,e]
  rw[this];split <;> rfl
def Vw(wid:Option Nat)(F:aa->(D->aa->Prop)->Prop):Prop:=
 ∀r0,∃ (pre:Prop) (out:D->List (Nat×Res)->Prop),∀H,nB H wid=r0->∀K,F H K↔ (pre/\∀d u,out d u->K d (fQ H wid u))
def qhL(R0:aa):Option Nat->Option Res
 | some t=>R0 t
 | none=>none
def qhz(wid:Option Nat)(u:Option Res):List (Nat×Res):=match wid,u with
 | some t,some r=>[(t,r)]
 | _,_=>[]
def NS(H:aa)(wid:Option Nat)(u:Option Res):fQ H wid (qhz wid u)=pp H wid u:=by
 cases wid with
 | none=>exact ni H none
 | some t=>cases u with
   | none=>exact ni H _
   | some r=>exact SH H t r
def LinU1.lin{wid:Option Nat}{F:aa->(D->aa->Prop)->Prop}(h:LinU1 wid F):Vw wid F:=λR0=>by
 obtain⟨pre,out,h⟩:=h (qhL R0 wid);refine⟨pre,λd us=>∃u,out d u/\us=qhz wid u,λH hr K=>?_⟩;have h1:Bc H wid=qhL R0 wid:=by
  cases wid with
  | none=>rfl
  | some t=>
    show H t=R0 t;rw[<-hr];simp only[nB];rw[if_pos (show vt (some t) t from rfl)]
 rw[h H h1 K];refine and_congr_right λ_=>⟨λhk d us ⟨u,ho,e⟩=>?_,λhk d u ho=>?_⟩
 ·subst e;rw[NS];exact hk d u ho
 ·have:=hk d _ ⟨u,ho,rfl⟩;rwa [NS]at this
def LinU0.lin{dst:Option Nat}{F:aa->(D->aa->Prop)->Prop}(h:LinU0 dst F):Vw dst F:=h.lin1.lin
theorem OT(S:Nat->Spc)(c:COp)(dst:Option Nat)(σ:Sg)(Hr:aa)(hb:¬ ∃r f args,c= .callb r f args):LinU1 (c.wid dst) λH K=>au S c dst σ Hr H K:=by
 by_cases h:∃r el n b x y,c= .append (some r) el n b x y
 ·obtain⟨r,el,n,b,x,y,rfl⟩:=h;intro r0;simp only[au,COp.wid];refine OV λes2=>?_
  cases ev σ x with
  | own id v=>
    cases r0 with
    | none=>
      refine⟨False,λ_ _=>True,λH hr K=>?_⟩;have hr:H r=none:=hr;rw[hr];exact⟨λh=>h.2.elim,λh=>h.1.elim⟩
    | some q=>
      cases q with
      | box b' cs=>
        refine⟨False,λ_ _=>True,λH hr K=>?_⟩;have hr:H r=some (.box b' cs):=hr;rw[hr];exact⟨λh=>h.2.elim,λh=>h.1.elim⟩
      | iter b' s' p'=>
        refine⟨False,λ_ _=>True,λH hr K=>?_⟩;have hr:H r=some (.iter b' s' p'):=hr;rw[hr];exact⟨λh=>h.2.elim,λh=>h.1.elim⟩
      | tbox b' s' p'=>
        refine⟨False,λ_ _=>True,λH hr K=>?_⟩;have hr:H r=some (.tbox b' s' p'):=hr;rw[hr];exact⟨λh=>h.2.elim,λh=>h.1.elim⟩
      | mrow x' es'=>
        refine⟨False,λ_ _=>True,λH hr K=>?_⟩;have hr:H r=some (.mrow x' es'):=hr;rw[hr];exact⟨λh=>h.2.elim,λh=>h.1.elim⟩
      | miter b' c' l'=>
        refine⟨False,λ_ _=>True,λH hr K=>?_⟩;have hr:H r=some (.miter b' c' l'):=hr;rw[hr];exact⟨λh=>h.2.elim,λh=>h.1.elim⟩
      | raw k'=>
        refine⟨False,λ_ _=>True,λH hr K=>?_⟩;have hr:H r=some (.raw k'):=hr;rw[hr];exact⟨λh=>h.2.elim,λh=>h.1.elim⟩
      | row x' el' n' es=>
        refine⟨id=r/\x'=v/\el'=el/\n'=n/\(es.length+es2.length) *b<=140737488355328/\es.length+es2.length<=140737488355328,λd u=>∃v,d= .own r v/\u=some (.row v el n (es++es2)),λH hr K=>?_⟩;have hr:H r=some (.row x' el' n' es):=hr;rw[hr];constructor
        ·rintro⟨h1,h2,h3,h4,h5,h6,h7⟩;exact⟨⟨h1,h2,h3,h4,h5,h6⟩,λd u ⟨v,e1,e2⟩=>by subst e1;subst e2;exact h7 v⟩
        ·rintro⟨⟨h1,h2,h3,h4,h5,h6⟩,h7⟩;exact⟨h1,h2,h3,h4,h5,h6,λv=>h7 _ _ ⟨v,rfl,rfl⟩⟩
  | _=>exact⟨False,λ_ _=>True,λH hr K=>⟨λh=>h.elim,λh=>h.1.elim⟩⟩
 ·by_cases hs:∃r sz x y,c= .store (some r) sz x y
  ·obtain⟨r,sz,x,y,rfl⟩:=hs;intro r0;simp only[au,COp.wid];have no:∃ (pre:Prop) (out:D->Option Res->Prop),∀H,Bc H (some r)=r0->∀K:D->aa->Prop,False↔ (pre/\∀d u,out d u->K d (pp H (some r) u)):=⟨False,λ_ _=>True,λ_ _ _=>⟨λh=>h.elim,λh=>h.1⟩⟩
   have conj:∀ {A:Prop} {G:aa->(D->aa->Prop)->Prop},(∃ (pre:Prop) (out:D->Option Res->Prop),∀H,Bc H (some r)=r0->∀K,G H K↔ (pre/\∀d u,out d u->K d (pp H (some r) u)))->
    ∃ (pre:Prop) (out:D->Option Res->Prop),∀H,Bc H (some r)=r0->∀K,(A/\G H K) ↔ (pre/\∀d u,out d u->K d (pp H (some r) u)):=λ{A G} h=>by
    obtain⟨pre,out,h⟩:=h;exact⟨A/\pre,out,λH hr K=>by rw[h H hr K,and_assoc]⟩
   refine conj (conj ?_);cases ev σ x with
   | bptr id b off=>
     refine conj ?_;cases r0 with
     | none=>
       refine⟨False,λ_ _=>True,λH hr K=>?_⟩;have hr:H r=none:=hr;rw[hr];exact⟨λh=>h.elim,λh=>h.1.elim⟩
     | some q=>
       cases q with
       | box b' cs=>
         refine⟨b'=b/\off+sz<=cs.length,λd u=>d= .undef/\u=some (.box b' (setAt cs off (ev σ y).cells)),λH hr K=>?_⟩;have hr:H r=some (.box b' cs):=hr;rw[hr];constructor
         ·rintro⟨h1,h2,h3⟩;exact⟨⟨h1,h2⟩,λd u ⟨e1,e2⟩=>by subst e1;subst e2;exact h3⟩
         ·rintro⟨⟨h1,h2⟩,h3⟩;exact⟨h1,h2,h3 _ _ ⟨rfl,rfl⟩⟩
       | row x' el' n' es=>
         refine⟨False,λ_ _=>True,λH hr K=>?_⟩;have hr:H r=some (.row x' el' n' es):=hr;rw[hr];exact⟨λh=>h.elim,λh=>h.1.elim⟩
       | iter b' s' p'=>
         refine⟨False,λ_ _=>True,λH hr K=>?_⟩;have hr:H r=some (.iter b' s' p'):=hr;rw[hr];exact⟨λh=>h.elim,λh=>h.1.elim⟩
       | tbox b' s' p'=>
         refine⟨False,λ_ _=>True,λH hr K=>?_⟩;have hr:H r=some (.tbox b' s' p'):=hr;rw[hr];exact⟨λh=>h.elim,λh=>h.1.elim⟩
       | mrow x' es'=>
         refine⟨False,λ_ _=>True,λH hr K=>?_⟩;have hr:H r=some (.mrow x' es'):=hr;rw[hr];exact⟨λh=>h.elim,λh=>h.1.elim⟩
       | miter b' c' l'=>
         refine⟨False,λ_ _=>True,λH hr K=>?_⟩;have hr:H r=some (.miter b' c' l'):=hr;rw[hr];exact⟨λh=>h.elim,λh=>h.1.elim⟩
       | raw k'=>
         refine⟨False,λ_ _=>True,λH hr K=>?_⟩;have hr:H r=some (.raw k'):=hr;rw[hr];exact⟨λh=>h.elim,λh=>h.1.elim⟩
   | eptr id v n i off=>
     refine conj ?_;cases r0 with
     | none=>
       refine⟨False,λ_ _=>True,λH hr K=>?_⟩;have hr:H r=none:=hr;rw[hr];exact⟨λh=>h.elim,λh=>h.1.elim⟩
     | some q=>
       cases q with
       | row x' el' n' es=>
         refine⟨x'=v/\n'=n/\0 < n/\off+sz<=n/\i < es.length,λd u=>d= .undef/\∃e,es[i]? =some e/\u=some (.row x' el' n' (es.set i (if off=0/\sz=n then ev σ y else .agg (setAt e.cells off (ev σ y).cells)))),λH hr K=>?_⟩;have hr:H r=some (.row x' el' n' es):=hr;rw[hr];constructor
         ·rintro⟨h1,h2,h3,h4,h5,h6⟩;exact⟨⟨h1,h2,h3,h4,h5⟩,λd u ⟨e1,e,e2,e3⟩=>by subst e1;subst e3;exact h6 e e2⟩
         ·rintro⟨⟨h1,h2,h3,h4,h5⟩,h6⟩;exact⟨h1,h2,h3,h4,h5,λe he=>h6 _ _ ⟨rfl,e,he,rfl⟩⟩
       | box b' cs=>
         refine⟨False,λ_ _=>True,λH hr K=>?_⟩;have hr:H r=some (.box b' cs):=hr;rw[hr];exact⟨λh=>h.elim,λh=>h.1.elim⟩
       | iter b' s' p'=>
         refine⟨False,λ_ _=>True,λH hr K=>?_⟩;have hr:H r=some (.iter b' s' p'):=hr;rw[hr];exact⟨λh=>h.elim,λh=>h.1.elim⟩
       | tbox b' s' p'=>
         refine⟨False,λ_ _=>True,λH hr K=>?_⟩;have hr:H r=some (.tbox b' s' p'):=hr;rw[hr];exact⟨λh=>h.elim,λh=>h.1.elim⟩
       | mrow x' es'=>
         refine⟨False,λ_ _=>True,λH hr K=>?_⟩;have hr:H r=some (.mrow x' es'):=hr;rw[hr];exact⟨λh=>h.elim,λh=>h.1.elim⟩
       | miter b' c' l'=>
         refine⟨False,λ_ _=>True,λH hr K=>?_⟩;have hr:H r=some (.miter b' c' l'):=hr;rw[hr];exact⟨λh=>h.elim,λh=>h.1.elim⟩
       | raw k'=>
         refine⟨False,λ_ _=>True,λH hr K=>?_⟩;have hr:H r=some (.raw k'):=hr;rw[hr];exact⟨λh=>h.elim,λh=>h.1.elim⟩
   | _=>exact no
  have hw:c.wid dst=dst:=by
   cases c
   case callb r f args=>exact absurd ⟨r,f,args,rfl⟩ hb
   case append rt el n b x y=>
    cases rt with
    | none=>rfl
    | some r=>exact absurd ⟨r,el,n,b,x,y,rfl⟩ h
   case store rt sz x y=>
    cases rt with
    | none=>rfl
    | some r=>exact absurd ⟨r,sz,x,y,rfl⟩ hs
   all_goals rfl
  rw[hw];exact(OU S c dst σ Hr (λr el n b x y e=>h ⟨r,el,n,b,x,y,e⟩) (λr sz x y e=>hs ⟨r,sz,x,y,e⟩) (λr f args e=>hb ⟨r,f,args,e⟩)).lin1
theorem Dg(S:Nat->Spc)(c:COp)(dst:Option Nat)(σ:Sg)(Hr:aa):Vw (c.wid dst) λH K=>au S c dst σ Hr H K:=by
 by_cases hb:∃r f args,c= .callb r f args
 ·obtain⟨r,f,args,rfl⟩:=hb;intro r0;simp only[au,COp.wid];have no:∃ (pre:Prop) (out:D->List (Nat×Res)->Prop),∀H,nB H (some r)=r0->∀K:D->aa->Prop,False↔ (pre/\∀d u,out d u->K d (fQ H (some r) u)):=⟨False,λ_ _=>True,λ_ _ _=>⟨λh=>h.elim,λh=>h.1⟩⟩
  cases hs:S f with
  | none=>exact no
  | pure pc=>exact no
  | gen A hA=>
    by_cases hx:YC r A (args.map (ev σ))
    ·obtain⟨p,o,h⟩:=id hx;refine⟨p r0,λd u=>o r0 d u,λH hr K=>?_⟩;simp only[Fd];rw[h,hr];exact⟨λh=>h.2,λh=>⟨hx,h⟩⟩
    ·exact⟨False,λ_ _=>True,λH _ K=>⟨λh=>absurd h.1 hx,λh=>h.1.elim⟩⟩
 ·exact(OT S c dst σ Hr hb).lin
theorem Dh(S:Nat->Spc)(x:CI)(σ:Sg)(Hr:aa):Vw x.wid λH K=>Ep S x σ Hr H K:=by
 cases x with
 | frz t n=>exact(av _).lin
 | op dst g c=>
   intro r0;obtain⟨pre,out,h⟩:=Dg S c dst σ Hr r0;have h':∀H,nB H (c.wid dst)=r0->∀K,au S c dst σ Hr H K↔ (pre/\∀d u,out d u->K d (fQ H (c.wid dst) u)):=h;cases g with
   | none=>exact⟨pre,out,h⟩
   | some sb=>
     obtain⟨s,b⟩:=sb;simp only[Ep,CI.wid];split
     ·rename_i t e1;refine⟨t=b->pre,λd u=>(t=b/\out d u)\/(t=(!b)/\d= .undef/\u=[]),λH hr K=>?_⟩;rw[h' H hr K];constructor
      ·rintro⟨h1,h2⟩;refine⟨λe=>(h1 e).1,λd u hd=>?_⟩;rcases hd with⟨e,hd⟩|⟨e,rfl,rfl⟩
       ·exact(h1 e).2 d u hd
       ·rw[ni];exact h2 e
      ·rintro⟨h1,h2⟩;refine⟨λe=>⟨h1 e,λd u hd=>h2 d u (.inl ⟨e,hd⟩)⟩,λe=>?_⟩;have:=h2 .undef [] (.inr ⟨e,rfl,rfl⟩);rwa [ni]at this
     ·exact⟨True,λd u=>d= .undef/\u=[],λH _ K=>⟨λh=>⟨trivial,λd u ⟨h1,h2⟩=>by subst h1;subst h2;rw[ni];exact h⟩,λh=>by have:=h.2 .undef [] ⟨rfl,rfl⟩;rwa [ni]at this⟩⟩
     ·exact(av _).lin r0
def vx{σ σ':Sg} :∀ (ps:List (Nat×Nat×Operand)) (cs:List D) (K:List D->Prop),(∀x∈ps.map (·.2.2),ev σ x=ev σ' x)->(gg σ ps cs K↔gg σ' ps cs K)
 | [],cs,K,_=>qkt
 | (off,sz,x)::r,cs,K,h=>by
  have hx:=h x (by simp);simp only[gg,hx];rw[vx r _ K (λy hy=>h y (by simp at hy ⊢;exact .inr hy))]
theorem wa{c:COp}{σ σ':Sg}{Hr:aa}{K:D->Prop}(h:∀x∈c.ops,ev σ x=ev σ' x):ah c σ Hr K↔ah c σ' Hr K:=by
 cases c
 case build z ps=>simp only[ah];exact vx ps _ _ h
 case box el im x=>cases im <;> simp only[ah];rw[h x (by simp[COp.ops])]
 case bslice el n ps=>
  have h':∀x∈ps,ev σ x=ev σ' x:=h;simp only[ah];rw[qkw h']
 case clo f caps=>
  have h':∀x∈caps,ev σ x=ev σ' x:=h;simp only[ah];rw[qkw h']
 case slice n x lo hi=>
  simp only[ah];rw[h x (by simp[COp.ops])];have h1:lo.map (λo=>iB (ev σ o))=lo.map (λo=>iB (ev σ' o)):=by cases lo <;> simp;rw[h _ (by simp[COp.ops])]
  have h2:hi.map (λo=>iB (ev σ o))=hi.map (λo=>iB (ev σ' o)):=by cases hi <;> simp;rw[h _ (by simp[COp.ops])]
  rw[h1,h2]
 case sslice x lo hi=>
  simp only[ah];rw[h x (by simp[COp.ops])];have h1:lo.map (λo=>iB (ev σ o))=lo.map (λo=>iB (ev σ' o)):=by cases lo <;> simp;rw[h _ (by simp[COp.ops])]
  have h2:hi.map (λo=>iB (ev σ o))=hi.map (λo=>iB (ev σ' o)):=by cases hi <;> simp;rw[h _ (by simp[COp.ops])]
  rw[h1,h2]
 case m mo xs=>
  have h':∀x∈xs,ev σ x=ev σ' x:=h;simp only[ah];rw[qkw h']
 case mm mx xs=>
  match xs with
  | []=>simp[ah]
  | [x]=>simp[ah]
  | [x,y]=>simp only[ah];rw[h x (by simp[COp.ops]),h y (by simp[COp.ops])]
  | [x,y,z]=>simp only[ah];rw[h x (by simp[COp.ops]),h y (by simp[COp.ops]),h z (by simp[COp.ops])]
  | _::_::_::_::_=>simp[ah]
 case pick q x y=>simp only[ah];rw[h q (by simp[COp.ops]),h x (by simp[COp.ops]),h y (by simp[COp.ops])]
 all_goals simp only[ah]
 all_goals first
  | (rename_i x;rw[h x (by simp[COp.ops])];done)
  | (rename_i x y;rw[h x (by simp[COp.ops]),h y (by simp[COp.ops])];done)
  | (rename_i x i;rw[h x (by simp[COp.ops])];done)
  | skip
theorem OA{S:Nat->Spc}{c:COp}{dst:Option Nat}{σ σ':Sg}{Hr H:aa}{K:D->aa->Prop}(h:∀x∈c.ops,ev σ x=ev σ' x):au S c dst σ Hr H K↔au S c dst σ' Hr H K:=by
 cases c
 case call f args=>
  simp only[au];rw[qkw (λx hx=>h x (by simpa [COp.ops]using hx))]
 case callv f args=>
  simp only[au];rw[h f (by simp[COp.ops]),qkw (λx hx=>h x (by simp[COp.ops,hx]))]
 case callb r f args=>
  simp only[au];rw[qkw (λx hx=>h x (by simpa [COp.ops]using hx))]
 case alloc el z=>exact qkt
 case box el im x=>
  cases im with
  | true=>exact(eX rfl).trans ((wa h).trans (eX rfl).symm)
  | false=>simp only[au,aP];rw[h x (by simp[COp.ops])]
 case tbx el x=>simp only[au,aP];rw[h x (by simp[COp.ops])]
 case nslice el n=>exact qkt
 case mslice el n ps=>
  have h':∀x∈ps,ev σ x=ev σ' x:=h;simp only[au,aP];rw[qkw h']
 case mkslice el n b agg z l cc=>simp only[au,aP];rw[h l (by simp[COp.ops]),h cc (by simp[COp.ops])]
 case store rt sz x y=>simp only[au];rw[h x (by simp[COp.ops]),h y (by simp[COp.ops])]
 case srange x=>exact qkt
 case snext x=>exact qkt
 case append rt el n b x y=>
  simp only[au];rw[h x (by simp[COp.ops]),h y (by simp[COp.ops])]
 case clear n agg z x=>exact qkt
 case copy n x y=>exact qkt
 case appmk el n b agg z x c=>simp only[au,aP];rw[h x (by simp[COp.ops]),h c (by simp[COp.ops])]
 case m mo xs=>
  have h':∀x∈xs,ev σ x=ev σ' x:=h;cases mo <;> first
   | exact(eX rfl).trans ((wa h).trans (eX rfl).symm)
   | exact qkt
   | (simp only[au,aP];rw[qkw h'])
 all_goals exact(eX rfl).trans ((wa h).trans (eX rfl).symm)
def VD:Operand->List Nat
 | .tmp t=>[t]
 | _=>[]
def CI.reads:CI->List Nat
 | .op _ g c=>c.ops.flatMap VD++ (match g with|some (s,_)=>[s]|none=>[])
 | .frz _ _=>[]
def zX{S:Nat->Spc}{x:CI}{σ σ':Sg}{Hr H:aa}{K:D->aa->Prop}(h:∀t∈x.reads,σ t=σ' t):Ep S x σ Hr H K↔Ep S x σ' Hr H K:=by
 cases x with
 | frz t n=>exact qkt
 | op dst g c=>
   have hev:∀y∈c.ops,ev σ y=ev σ' y:=λy hy=>by
    cases y with
    | tmp t=>exact h t (by simp only[CI.reads,qjM,qlz];exact .inl ⟨_,hy,by simp[VD]⟩)
    | _=>rfl
   have hp:=OA (S:=S) (dst:=dst) (Hr:=Hr) (H:=H) (K:=K) hev;cases g with
   | none=>exact hp
   | some sb=>
     obtain⟨s,b⟩:=sb;simp only[Ep];rw[<-h s (by simp[CI.reads])];split
     ·rw[hp]
     ·exact qkt
     ·exact qkt
end Go.Gv
