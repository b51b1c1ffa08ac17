/- A part of the framework and of the walks: T3. -/
import Derived.Test.YticbieanhfdnoaaGreatDoorGc11
set_option linter.unusedSimpArgs false
set_option linter.unusedVariables false

namespace Go.Gv
def COp.ops:COp→List Operand
 | .mv x | .box _ _ x | .tbx _ x | .load _ _ x | .nilck x | .not x | .neg x | .conv _ x | .faddr _ x | .fld _ _ _ x | .ext x _ | .len x | .slen x=> [x]
 | .pick c x y=> [c,x,y]
 | .alloc _ _ | .nslice _ _ | .bad=> []
 | .build _ ps=> ps.map (·.2.2)
 | .bslice _ _ ps=> ps
 | .mslice _ _ ps=> ps
 | .store _ _ x y | .arith _ x y | .cmp _ x y | .eql _ _ _ x y | .scat x y | .iaddr _ x y | .sidx x y | .append _ _ _ _ x y=> [x,y]
 | .clo _ xs | .mm _ xs | .call _ xs | .callb _ _ xs=> xs
 | .appmk _ _ _ _ _ x y | .copy _ x y=> [x,y]
 | .clear _ _ _ x | .cap x | .srange x | .snext x | .sbytes x | .bstr x | .rstr x | .mkif _ x=> [x]
 | .mkslice _ _ _ _ _ l c=> [l,c]
 | .slice _ x lo hi | .sslice x lo hi=> x::lo.toList++hi.toList
 | .callv f xs=> f::xs
 | .m _ xs=> xs
def Wp (A:PT):Prop:= ∃ (p:List D→Prop) (o:Nat→List D→D→Res→Prop),∀ (t:Nat) (ds:List D) (H:aa) (K:D→aa→Prop),A t ds H K↔ (p ds∧ ∀d u,o t ds d u→K d (aj H t (some u)))
def K5 (dst:Option Nat) (s:Spc) (args:List D) (H:aa) (K:D→aa→Prop):Prop:=match s with
 | .pure pc=> pc.pre args∧ ∀r,pc.post args r→K r H
 | .gen A _=> match dst with
   | some t=> Wp A∧A t args H K
   | none=> False
 | .none=> False
def J3 (i:Nat):Nat:=if 990≤i∧i < 1000 then 0 else i
def wV (wid:Option Nat) (i:Nat):Prop:=match wid with | some t=> J3 i=J3 t | none=> False
instance (wid:Option Nat) (i:Nat):Decidable (wV wid i):=by unfold wV;split <;> infer_instance
def nc (H:aa) (wid:Option Nat):aa:=fun i=> if wV wid i then H i else none
def gD (H:aa) (wid:Option Nat) (u:List (Nat×Res)):aa:=fun i=> if wV wid i then(match u.lookup i with | some r=> some r | none=> H i) else H i
def Ta (r:Nat) (A:PT) (args:List D):Prop:= ∃ (p:aa→Prop) (o:aa→D→List (Nat×Res)→Prop),∀ (t:Nat) (H:aa) (K:D→aa→Prop),A t args H K↔ (p (nc H (some r))∧ ∀d u,o (nc H (some r)) d u→K d (gD H (some r) u))
def C7 (r:Nat) (dst:Option Nat) (s:Spc) (args:List D) (H:aa) (K:D→aa→Prop):Prop:=match s with
 | .gen A _=> Ta r A args∧A (dst.getD 0) args H K
 | _=> False
def aB (S:Nat→Spc) (c:COp) (dst:Option Nat) (σ:Sg) (Hr H:aa) (K:D→aa→Prop):Prop:=
 match c with
 | .call f args=> K5 dst (S f) (args.map (ev σ)) H K
 | .callb r f args=> C7 r dst (S f) (args.map (ev σ)) H K
 | .callv f args=> match ev σ f with
   | .clo g caps=> match S g with
     | .pure pc=> pc.pre (args.map (ev σ) ++caps)∧ ∀r,pc.post (args.map (ev σ) ++caps) r→K r H
     | _=> False
   | _=> False
 | .alloc el z=> bQ (.alloc el z) dst σ H K
 | .box el false x=> bQ (.box el false x) dst σ H K
 | .tbx el x=> bQ (.tbx el x) dst σ H K
 | .nslice el n=> bQ (.nslice el n) dst σ H K
 | .mslice el n ps=> bQ (.mslice el n ps) dst σ H K
 | .mkslice el n b agg z l c=> bQ (.mkslice el n b agg z l c) dst σ H K
 | .append rt el n b x y=> oo n (ev σ y) Hr fun es2=> match rt with
   | none=> match dst,ev σ x with
     | some t, .v (.slice none 0 0)=> es2.length*b≤140737488355328∧es2.length≤140737488355328∧ ∀v,K (.own t v) (aj H t (some (.row v el n es2)))
     | _,_=> False
   | some r=> match ev σ x with
     | .own id x=> id=r∧match H r with
       | some (.row x' el' n' es)=> x'=x∧el'=el∧n'=n∧(es.length+es2.length) *b≤140737488355328∧es.length+es2.length≤140737488355328∧ ∀v,K (.own r v) (aj H r (some (.row v el n (es++es2))))
       | _=> False
     | _=> False
 | .store rt sz x y=> (ev σ y).kn=true∧(ev σ y).cells.length=sz∧match rt with
   | none=> False
   | some r=> match ev σ x with
     | .bptr id b off=> id=r∧match H r with
       | some (.box b' cells)=> b'=b∧off+sz≤cells.length∧K .undef (aj H r (some (.box b' (setAt cells off (ev σ y).cells))))
       | _=> False
     | .eptr id x n i off=> id=r∧match H r with
       | some (.row x' el n' es)=> x'=x∧n'=n∧0 < n∧off+sz≤n∧i < es.length∧ ∀d,es[i]?=some d→
          K .undef (aj H r (some (.row x' el n' (es.set i (if off=0∧sz=n then ev σ y else .agg (setAt d.cells off (ev σ y).cells))))))
       | _=> False
     | _=> False
 | .clear .. | .copy .. | .srange .. | .snext .. => False
 | .appmk el n b agg z x c=> bQ (.appmk el n b agg z x c) dst σ H K
 | .m .mk xs=> bQ (.m .mk xs) dst σ H K
 | c=> am c σ Hr fun d=> K d H
def COp.wid (c:COp) (dst:Option Nat):Option Nat:=
 match c with
 | .append (some r) _ _ _ _ _=> some r
 | .store (some r) _ _ _=> some r
 | .callb r _ _=> some r
 | _=> dst
def CI.wid:CI→Option Nat
 | .op d _ c=> c.wid d
 | .frz _ _=> none
def bK:List CI→aa→aa
 | [],H=> H
 | .frz _ _::_,H=> H
 | .op d g c::l,H=> fun i=> if wV (CI.op d g c).wid i then none else bK l H i
def jJ (S:Nat→Spc):List CI→Sg→aa→aa→(Sg→aa→Prop)→Prop
 | [],σ,_,H,K=> K σ H
 | .frz _ _::r,σ,Hr,H,K=> jJ S r σ (bK r Hr) H K
 | .op dst g c::r,σ,Hr,H,K=> lu g σ (fun σ=> aB S c dst σ Hr H fun d H'=> jJ S r (eA σ dst d) Hr H' K) (fun σ=> jJ S r (eA σ dst .undef) Hr H K)
def Cm (S:Nat→Spc) (x:CI) (σ:Sg) (Hr H:aa) (K:D→aa→Prop):Prop:=
 match x with
 | .frz _ _=> False
 | .op dst g c=> match g with
   | none=> aB S c dst σ Hr H K
   | some (s,b)=> match σ s with
     | .v (.bool t)=> (t=b→aB S c dst σ Hr H K)∧(t=(!b)→K .undef H)
     | .undef=> K .undef H
     | _=> False
def CI.dst:CI→Option Nat
 | .op d _ _=> d
 | .frz _ _=> none
def O1 (S:Nat→Spc):List (CI×aa)→Sg→aa→(Sg→aa→Prop)→Prop
 | [],σ,H,K=> K σ H
 | x::r,σ,H,K=> Cm S x.1 σ x.2 H fun d H'=> O1 S r (eA σ x.1.dst d) H' K
def Fs (F: (D→Prop)→Prop):Prop:= ∃ (pre:Prop) (out:D→Prop),∀K,F K↔ (pre∧ ∀d,out d→K d)
theorem bE (d:D):Fs fun K=> K d:=⟨True,fun e=> e=d,fun K=> ⟨fun h=> ⟨trivial,fun e he=> he ▸h⟩,fun h=> h.2 d rfl⟩⟩
theorem gl:Fs fun _=> False:=⟨False,fun _=> True,fun K=> ⟨fun h=> h.elim,fun h=> h.1⟩⟩
theorem aM {A:Prop} {F: (D→Prop)→Prop} (h:Fs F):Fs fun K=> A∧F K:=by
 obtain⟨pre,out,h⟩:=h
 exact⟨A∧pre,out,fun K=> by dsimp only;rw[h K,and_assoc]⟩
theorem jm {A:Prop} {F: (D→Prop)→Prop} (h:Fs F):Fs fun K=> A→F K:=by
 obtain⟨pre,out,h⟩:=h
 refine⟨A→pre,fun d=> A∧out d,fun K=> ?_⟩
 constructor
 ·intro hf
  exact⟨fun ha=> ((h K).1 (hf ha)).1,fun d hd=> ((h K).1 (hf hd.1)).2 d hd.2⟩
 ·intro hf ha
  exact(h K).2 ⟨hf.1 ha,fun d hd=> hf.2 d ⟨ha,hd⟩⟩
theorem qp {α:Type} {F:α→(D→Prop)→Prop} (h: ∀x,Fs (F x)):Fs fun K=> ∀x,F x K:=by
 have h': ∀x,∃ (p:Prop× (D→Prop)),∀K,F x K↔ (p.1∧ ∀d,p.2 d→K d):=fun x=> by
  obtain⟨pre,out,hx⟩:=h x
  exact⟨(pre,out),hx⟩
 obtain⟨p,hp⟩:=Classical.axiomOfChoice h'
 refine⟨∀x,(p x).1,fun d=> ∃x,(p x).2 d,fun K=> ?_⟩
 constructor
 ·intro hf
  exact⟨fun x=> ((hp x K).1 (hf x)).1,fun d ⟨x,hx⟩=> ((hp x K).1 (hf x)).2 d hx⟩
 ·intro hf x
  exact(hp x K).2 ⟨hf.1 x,fun d hd=> hf.2 d ⟨x,hd⟩⟩
theorem GG {F G: (D→Prop)→Prop} (h1:Fs F) (h2:Fs G):Fs fun K=> F K∧G K:=by
 obtain⟨p1,o1,h1⟩:=h1
 obtain⟨p2,o2,h2⟩:=h2
 refine⟨p1∧p2,fun d=> o1 d∨o2 d,fun K=> ?_⟩
 dsimp only
 rw[h1 K,h2 K]
 constructor
 ·rintro⟨⟨a,b⟩,c,d⟩
  exact⟨⟨a,c⟩,fun e he=> he.elim (b e) (d e)⟩
 ·rintro⟨⟨a,c⟩,b⟩
  exact⟨⟨a,fun e he=> b e (.inl he)⟩,c,fun e he=> b e (.inr he)⟩
theorem Di (σ:Sg): ∀ (ps:List (Nat×Nat×Operand)) (cs:List D),Fs fun K=> iC σ ps cs fun cs=> K (.agg cs)
 | [],cs=> bE _
 | (off,sz,x)::r,cs=> aM (aM (Di σ r _))
theorem Ll (op:BinOp) (k:IntKind) (a b:Int):Fs fun K=> gg op k a b K:=by
 cases op <;> simp only[gg] <;> first
  | exact gl
  | exact bE _
  | exact aM (bE _)
  | exact aM (aM (bE _))
theorem EH (lo hi:Option (Option (IntKind×Int))) (len:Nat) (f:Nat→Nat→D):Fs fun K=> n9 lo hi len fun l h=> K (f l h):=by
 unfold n9
 split <;> first
  | exact bE _
  | exact aM (aM (bE _))
  | exact aM (aM (aM (bE _)))
  | exact gl
theorem JZ {d:D} {H:aa} {F:List D→(D→Prop)→Prop} (h: ∀es,Fs (F es)):Fs fun K=> sq d H fun es=> F es K:=by
 unfold sq
 split
 ·exact h _
 ·exact h _
 ·split
  ·exact aM (h _)
  ·exact gl
 ·exact gl
theorem JY (o:MOp) (ds:List D) (H:aa):Fs fun K=> pq o ds H K:=by
 unfold pq
 split
 ·exact JZ fun es=> aM (aM (GG (qp fun k'=> qp fun v=> jm (jm (bE _))) (jm (bE _))))
 ·exact JZ fun es=> bE _
 ·split
  ·exact aM (aM (bE _))
  ·exact aM gl
 ·refine aM (aM ?_)
  unfold NX
  split <;> first | exact bE _ | exact gl
 ·exact gl
theorem GF (c:COp) (σ:Sg) (Hr:aa):Fs fun K=> am c σ Hr K:=by
 unfold am
 split <;> first
  | exact bE _
  | exact gl
  | exact Di σ _ _
  | exact aM (bE _)
  | skip
 all_goals
  (repeat' split) <;> first
    | exact bE _
    | exact gl
    | exact GG (jm (bE _)) (jm (bE _))
    | exact aM (bE _)
    | exact aM (aM (bE _))
    | exact aM (aM (aM (bE _)))
    | exact aM (aM (aM (aM (bE _))))
    | exact aM (aM (aM (aM (qp fun _=> jm (bE _)))))
    | exact aM (aM (aM (qp fun _=> jm (bE _))))
    | exact aM (aM (qp fun _=> jm (bE _)))
    | exact aM (Ll _ _ _ _)
    | exact jm (bE _)
    | exact aM (jm (bE _))
    | exact aM gl
    | exact aM (aM (EH _ _ _ _))
    | exact aM (EH _ _ _ _)
    | exact EH _ _ _ fun _ _=> _
    | exact JY _ _ _
    | skip
def om (H:aa) (dst:Option Nat) (u:Option Res):aa:=
 match dst,u with
 | some t,some r=> aj H t (some r)
 | _,_=> H
def LinU0 (dst:Option Nat) (F:aa→(D→aa→Prop)→Prop):Prop:=
 ∃ (pre:Prop) (out:D→Option Res→Prop),∀H K,F H K↔ (pre∧ ∀d u,out d u→K d (om H dst u))
def yI (H:aa):Option Nat→Option Res
 | some t=> H t
 | none=> none
def LinU1 (wid:Option Nat) (F:aa→(D→aa→Prop)→Prop):Prop:=
 ∀r0,∃ (pre:Prop) (out:D→Option Res→Prop),∀H,yI H wid=r0→ ∀K,F H K↔ (pre∧ ∀d u,out d u→K d (om H wid u))
theorem LinU0.lin1 {dst:Option Nat} {F:aa→(D→aa→Prop)→Prop} (h:LinU0 dst F):LinU1 dst F:=fun _=> by
 obtain⟨pre,out,h⟩:=h
 exact⟨pre,out,fun H _ K=> h H K⟩
theorem BO (H:aa) (dst:Option Nat):om H dst none=H:=by cases dst <;> rfl
theorem EI {dst:Option Nat} {G: (D→Prop)→Prop} (h:Fs G):LinU0 dst fun H K=> G fun d=> K d H:=by
 obtain⟨pre,out,h⟩:=h
 refine⟨pre,fun d u=> out d∧u=none,fun H K=> ?_⟩
 dsimp only
 rw[h]
 constructor
 ·rintro⟨a,b⟩
  exact⟨a,fun d u ⟨h1,h2⟩=> by subst h2;rw[BO];exact b d h1⟩
 ·rintro⟨a,b⟩
  exact⟨a,fun d h1=> by have:=b d none ⟨h1,rfl⟩;rwa [BO] at this⟩
theorem aG (dst:Option Nat):LinU0 dst fun _ _=> False:=⟨False,fun _ _=> True,fun _ _=> ⟨fun h=> h.elim,fun h=> h.1⟩⟩
theorem kg {t:Nat} {α:Type} {A:Prop} (f:α→D) (r:α→Res):LinU0 (some t) fun H K=> A∧ ∀b,K (f b) (aj H t (some (r b))):=by
 refine⟨A,fun d u=> ∃b,d=f b∧u=some (r b),fun H K=> ?_⟩
 constructor
 ·rintro⟨a,h⟩
  exact⟨a,fun d u ⟨b,h1,h2⟩=> by subst h1;subst h2;exact h b⟩
 ·rintro⟨a,h⟩
  exact⟨a,fun b=> h _ _ ⟨b,rfl,rfl⟩⟩
theorem LinU0.congr {dst:Option Nat} {F G:aa→(D→aa→Prop)→Prop} (h:LinU0 dst F) (hfg: ∀H K,G H K↔F H K):LinU0 dst G:=by
 obtain⟨pre,out,h⟩:=h
 exact⟨pre,out,fun H K=> (hfg H K).trans (h H K)⟩
theorem gV {S:Nat→Spc} {c:COp} {dst:Option Nat} {σ:Sg} {Hr H:aa} {K:D→aa→Prop} (h:c.isRead=true):aB S c dst σ Hr H K↔am c σ Hr fun d=> K d H:=by
 cases c <;> first | exact Iff.rfl | (simp[COp.isRead] at h;done) | skip
 ·rename_i el im x
  cases im
  ·simp[COp.isRead] at h
  ·exact Iff.rfl
 ·rename_i mo xs
  cases mo <;> first | (simp[COp.isRead,MOp.isRead] at h;done) | exact Iff.rfl
theorem Np {dst:Option Nat} {n:Nat} {d:D} {Hr:aa} {F:List D→aa→(D→aa→Prop)→Prop} (h: ∀es,LinU0 dst (F es)):LinU0 dst fun H K=> jT n d Hr fun es=> F es H K:=by
 have conj: ∀ {A:Prop} {G:aa→(D→aa→Prop)→Prop},LinU0 dst G→LinU0 dst fun H K=> A∧G H K:=fun {A G} h=> by
  obtain⟨pre,out,h⟩:=h
  exact⟨A∧pre,out,fun H K=> by dsimp only;rw[h H K,and_assoc]⟩
 unfold jT
 split
 ·exact conj (h _)
 ·split
  ·exact conj (conj (h _))
  ·exact aG _
 ·exact h _
 ·split
  ·exact conj (conj (conj (h _)))
  ·exact aG _
 ·exact aG _
theorem Lm {dst:Option Nat} {n:Nat} {d:D} {Hr:aa} {F:List D→aa→(D→aa→Prop)→Prop} (h: ∀es,LinU0 dst (F es)):LinU0 dst fun H K=> oo n d Hr fun es=> F es H K:=by
 unfold oo
 split
 ·rename_i s
  obtain⟨pre,out,h⟩:=h (xe s)
  exact⟨n=1∧pre,out,fun H K=> by dsimp only;rw[h H K,and_assoc]⟩
 ·exact Np h
theorem Nq {wid:Option Nat} {n:Nat} {d:D} {Hr:aa} {r0:Option Res} {F:List D→aa→(D→aa→Prop)→Prop}
 (h: ∀es,∃ (pre:Prop) (out:D→Option Res→Prop),∀H,yI H wid=r0→ ∀K,F es H K↔ (pre∧ ∀d u,out d u→K d (om H wid u))):
 ∃ (pre:Prop) (out:D→Option Res→Prop),∀H,yI H wid=r0→ ∀K,(jT n d Hr fun es=> F es H K) ↔ (pre∧ ∀d u,out d u→K d (om H wid u)):=by
 have conj: ∀ {A:Prop} {G:aa→(D→aa→Prop)→Prop},(∃ (pre:Prop) (out:D→Option Res→Prop),∀H,yI H wid=r0→ ∀K,G H K↔ (pre∧ ∀d u,out d u→K d (om H wid u)))→
  ∃ (pre:Prop) (out:D→Option Res→Prop),∀H,yI H wid=r0→ ∀K,(A∧G H K) ↔ (pre∧ ∀d u,out d u→K d (om H wid u)):=fun {A G} h=> by
  obtain⟨pre,out,h⟩:=h
  exact⟨A∧pre,out,fun H hr K=> by rw[h H hr K,and_assoc]⟩
 have no: ∃ (pre:Prop) (out:D→Option Res→Prop),∀H,yI H wid=r0→ ∀K:D→aa→Prop,False↔ (pre∧ ∀d u,out d u→K d (om H wid u)):=⟨False,fun _ _=> True,fun _ _ _=> ⟨fun h=> h.elim,fun h=> h.1⟩⟩
 unfold jT
 split
 ·exact conj (h _)
 ·split
  ·exact conj (conj (h _))
  ·exact no
 ·exact h _
 ·split
  ·exact conj (conj (conj (h _)))
  ·exact no
 ·exact no
theorem Lp {wid:Option Nat} {n:Nat} {d:D} {Hr:aa} {r0:Option Res} {F:List D→aa→(D→aa→Prop)→Prop}
 (h: ∀es,∃ (pre:Prop) (out:D→Option Res→Prop),∀H,yI H wid=r0→ ∀K,F es H K↔ (pre∧ ∀d u,out d u→K d (om H wid u))):
 ∃ (pre:Prop) (out:D→Option Res→Prop),∀H,yI H wid=r0→ ∀K,(oo n d Hr fun es=> F es H K) ↔ (pre∧ ∀d u,out d u→K d (om H wid u)):=by
 unfold oo
 split
 ·rename_i s
  obtain⟨pre,out,h⟩:=h (xe s)
  exact⟨n=1∧pre,out,fun H hr K=> by dsimp only;rw[h H hr K,and_assoc]⟩
 ·exact Nq h
theorem Lo (S:Nat→Spc) (c:COp) (dst:Option Nat) (σ:Sg) (Hr:aa) (hna: ∀r el n b x y,c≠ .append (some r) el n b x y) (hns: ∀r sz x y,c≠ .store (some r) sz x y) (hnb: ∀r f args,c≠ .callb r f args):LinU0 dst fun H K=> aB S c dst σ Hr H K:=by
 by_cases hro:c.isRead=true
 ·exact(EI (GF c σ Hr)).congr fun H K=> gV hro
 cases c
 case call f args=>
  simp only[aB]
  cases S f with
  | pure pc=> exact EI (G:=fun K=> pc.pre (args.map (ev σ))∧ ∀r,pc.post (args.map (ev σ)) r→K r) (aM (qp fun r=> jm (bE r)))
  | none=> exact aG dst
  | gen A hA=>
    cases dst with
    | none=> exact aG none
    | some t=>
      by_cases hf:Wp A
      ·obtain⟨p,o,h⟩:=id hf
       refine⟨p (args.map (ev σ)),fun d u=> ∃u',u=some u'∧o t (args.map (ev σ)) d u',fun H K=> ?_⟩
       simp only[K5]
       rw[h t]
       constructor
       ·rintro⟨_,a,b⟩
        exact⟨a,fun d u ⟨u',e,h1⟩=> by subst e;exact b d u' h1⟩
       ·rintro⟨a,b⟩
        exact⟨hf,a,fun d u h1=> b d (some u) ⟨u,rfl,h1⟩⟩
      ·exact(aG (some t)).congr fun H K=> ⟨fun h=> hf h.1,fun h=> h.elim⟩
 case callb r f args=> exact absurd rfl (hnb r f args)
 case callv f args=>
  simp only[aB]
  split
  ·rename_i g caps _
   split
   ·rename_i pc _
    exact EI (G:=fun K=> pc.pre (args.map (ev σ) ++caps)∧ ∀r,pc.post (args.map (ev σ) ++caps) r→K r) (aM (qp fun r=> jm (bE r)))
   ·exact aG dst
  ·exact aG dst
 case alloc el z=>
  cases dst with
  | none=> simp only[aB,bQ];exact aG _
  | some t=> exact(kg (t:=t) (A:=True) (fun b=> D.bptr t b 0) (fun b=> Res.box b (z.map oV))).congr (fun H K=> by simp only[aB,bQ,true_and])
 case box el im x=>
  cases im with
  | true=> exact absurd rfl hro
  | false=>
    cases dst with
    | none=> simp only[aB,bQ];exact aG _
    | some t=> exact(kg (t:=t) (A:=(ev σ x).kn=true) (fun b=> D.bptr t b 0) (fun b=> Res.box b (ev σ x).cells)).congr (fun H K=> by simp only[aB,bQ])
 case tbx el x=>
  cases dst with
  | none=> simp only[aB,bQ];exact aG _
  | some t=> exact(kg (t:=t) (A:=(ev σ x).kn=true) (fun b=> D.bptr t b 0) (fun b=> Res.tbox el b (ev σ x).cells)).congr (fun H K=> by simp only[aB,bQ])
 case nslice el n=>
  cases dst with
  | none=> simp only[aB,bQ];exact aG _
  | some t=> exact(kg (t:=t) (A:=True) (fun x=> D.own t x) (fun x=> Res.row x el n [])).congr (fun H K=> by simp only[aB,bQ,true_and])
 case mslice el n ps=>
  cases dst with
  | none=> simp only[aB,bQ];exact aG _
  | some t=> exact(kg (t:=t) (A:=jl n (ps.map (ev σ))) (fun x=> D.own t x) (fun x=> Res.row x el n (ps.map (ev σ)))).congr (fun H K=> by simp only[aB,bQ])
 case mkslice el n b agg z l cc=>
  cases dst with
  | none=> simp only[aB,bQ];exact aG _
  | some t=>
    simp only[aB,bQ]
    split
    ·rename_i e1 e2
     rename_i k1 l' k2 c'
     exact(kg (t:=t) (A:=0≤l'∧l'≤c'∧b*c'≤140737488355328∧c'≤140737488355328) (fun x=> D.own t x) (fun x=> Res.row x el n (List.replicate l'.toNat (if agg then .agg (z.map oV) else oV (z.headD (.bool false)))))).congr (fun H K=> by simp only[and_assoc])
    ·exact aG _
 case store rt sz x y=>
  cases rt with
  | some r=> exact absurd rfl (hns r sz x y)
  | none=> exact(aG dst).congr fun H K=> ⟨fun h=> h.2.2.elim,fun h=> h.elim⟩
 case srange x=> exact aG dst
 case snext x=> exact aG dst
 case append rt el n b x y=>
  cases rt with
  | some r=> exact absurd rfl (hna r el n b x y)
  | none=>
    simp only[aB]
    refine Lm fun es2=> ?_
    split
    ·rename_i t _
     exact(kg (t:=t) (A:=es2.length*b≤140737488355328∧es2.length≤140737488355328) (fun v=> D.own t v) (fun v=> Res.row v el n es2)).congr (fun H K=> by simp only[and_assoc])
    ·exact aG _
 case clear n agg z x=> exact aG dst
 case copy n x y=> exact aG dst
 case appmk el n b agg z x c=>
  simp only[aB,bQ]
  split
  ·cases dst with
   | none=> exact aG _
   | some t=>
     cases hc:ol (ev σ c) with
     | none=> exact aG _
     | some p=>
       obtain⟨k,c'⟩:=p
       exact(kg (t:=t) (A:=0≤c'∧c'*b≤140737488355328∧c'≤140737488355328) (fun x=> D.own t x) (fun x=> Res.row x el n (List.replicate c'.toNat (Fx agg z)))).congr (fun H K=> by simp only[and_assoc])
  ·exact aG _
 case m mo xs=>
  cases mo
  case mk=>
   cases xs with
   | nil=>
     cases dst with
     | none=> exact aG _
     | some t=> exact(kg (t:=t) (A:=True) (fun x=> D.own t x) (fun x=> Res.mrow x [])).congr (fun H K=> by simp only[aB,bQ,ke,List.map_nil,true_and])
   | cons x xs=> exact(aG dst).congr fun H K=> Iff.rfl
  case upd=> exact(aG dst).congr fun H K=> Iff.rfl
  case rng=> exact(aG dst).congr fun H K=> Iff.rfl
  case next=> exact(aG dst).congr fun H K=> Iff.rfl
  all_goals exact absurd rfl hro
 all_goals exact absurd rfl hro
theorem mS (H:aa) (wid:Option Nat):gD H wid []=H:=by
 funext i
 simp only[gD,List.lookup]
 split <;> rfl
theorem OG (H:aa) (t:Nat) (r:Res):gD H (some t) [(t,r)]=aj H t (some r):=by
 funext i
 simp only[gD,aj]
 by_cases h:i=t
 ·subst h
  rw[if_pos (show wV (some i) i from rfl),if_pos rfl]
  simp[List.lookup]
 ·rw[if_neg h]
  have: ([(t,r)]:List (Nat×Res)).lookup i=none:=by
   have e: (i==t)=false:=by simp[h]
   simp only[List.lookup,e]
  rw[this]
  split <;> rfl
def QO (wid:Option Nat) (F:aa→(D→aa→Prop)→Prop):Prop:=
 ∀r0,∃ (pre:Prop) (out:D→List (Nat×Res)→Prop),∀H,nc H wid=r0→ ∀K,F H K↔ (pre∧ ∀d u,out d u→K d (gD H wid u))
def qeA (R0:aa):Option Nat→Option Res
 | some t=> R0 t
 | none=> none
def qep (wid:Option Nat) (u:Option Res):List (Nat×Res):=match wid,u with
 | some t,some r=> [(t,r)]
 | _,_=> []
theorem Kz (H:aa) (wid:Option Nat) (u:Option Res):gD H wid (qep wid u)=om H wid u:=by
 cases wid with
 | none=> exact mS H none
 | some t=> cases u with
   | none=> exact mS H _
   | some r=> exact OG H t r
theorem LinU1.lin {wid:Option Nat} {F:aa→(D→aa→Prop)→Prop} (h:LinU1 wid F):QO wid F:=fun R0=> by
 obtain⟨pre,out,h⟩:=h (qeA R0 wid)
 refine⟨pre,fun d us=> ∃u,out d u∧us=qep wid u,fun H hr K=> ?_⟩
 have h1:yI H wid=qeA R0 wid:=by
  cases wid with
  | none=> rfl
  | some t=>
    show H t=R0 t
    rw[←hr]
    simp only[nc]
    rw[if_pos (show wV (some t) t from rfl)]
 rw[h H h1 K]
 refine and_congr_right fun _=> ⟨fun hk d us ⟨u,ho,e⟩=> ?_,fun hk d u ho=> ?_⟩
 ·subst e;rw[Kz];exact hk d u ho
 ·have:=hk d _ ⟨u,ho,rfl⟩
  rwa [Kz] at this
theorem LinU0.lin {dst:Option Nat} {F:aa→(D→aa→Prop)→Prop} (h:LinU0 dst F):QO dst F:=h.lin1.lin
theorem Ln (S:Nat→Spc) (c:COp) (dst:Option Nat) (σ:Sg) (Hr:aa) (hb: ¬ ∃r f args,c= .callb r f args):LinU1 (c.wid dst) fun H K=> aB S c dst σ Hr H K:=by
 by_cases h: ∃r el n b x y,c= .append (some r) el n b x y
 ·obtain⟨r,el,n,b,x,y,rfl⟩:=h
  intro r0
  simp only[aB,COp.wid]
  refine Lp fun es2=> ?_
  cases ev σ x with
  | own id v=>
    cases r0 with
    | none=>
      refine⟨False,fun _ _=> True,fun H hr K=> ?_⟩
      have hr:H r=none:=hr
      rw[hr]
      exact⟨fun h=> h.2.elim,fun h=> h.1.elim⟩
    | some q=>
      cases q with
      | box b' cs=>
        refine⟨False,fun _ _=> True,fun H hr K=> ?_⟩
        have hr:H r=some (.box b' cs):=hr
        rw[hr]
        exact⟨fun h=> h.2.elim,fun h=> h.1.elim⟩
      | iter b' s' p'=>
        refine⟨False,fun _ _=> True,fun H hr K=> ?_⟩
        have hr:H r=some (.iter b' s' p'):=hr
        rw[hr]
        exact⟨fun h=> h.2.elim,fun h=> h.1.elim⟩
      | tbox b' s' p'=>
        refine⟨False,fun _ _=> True,fun H hr K=> ?_⟩
        have hr:H r=some (.tbox b' s' p'):=hr
        rw[hr]
        exact⟨fun h=> h.2.elim,fun h=> h.1.elim⟩
      | mrow x' es'=>
        refine⟨False,fun _ _=> True,fun H hr K=> ?_⟩
        have hr:H r=some (.mrow x' es'):=hr
        rw[hr]
        exact⟨fun h=> h.2.elim,fun h=> h.1.elim⟩
      | miter b' c' l'=>
        refine⟨False,fun _ _=> True,fun H hr K=> ?_⟩
        have hr:H r=some (.miter b' c' l'):=hr
        rw[hr]
        exact⟨fun h=> h.2.elim,fun h=> h.1.elim⟩
      | row x' el' n' es=>
        refine⟨id=r∧x'=v∧el'=el∧n'=n∧(es.length+es2.length) *b≤140737488355328∧es.length+es2.length≤140737488355328,fun d u=> ∃v,d= .own r v∧u=some (.row v el n (es++es2)),fun H hr K=> ?_⟩
        have hr:H r=some (.row x' el' n' es):=hr
        rw[hr]
        constructor
        ·rintro⟨h1,h2,h3,h4,h5,h6,h7⟩
         exact⟨⟨h1,h2,h3,h4,h5,h6⟩,fun d u ⟨v,e1,e2⟩=> by subst e1;subst e2;exact h7 v⟩
        ·rintro⟨⟨h1,h2,h3,h4,h5,h6⟩,h7⟩
         exact⟨h1,h2,h3,h4,h5,h6,fun v=> h7 _ _ ⟨v,rfl,rfl⟩⟩
  | _=> exact⟨False,fun _ _=> True,fun H hr K=> ⟨fun h=> h.elim,fun h=> h.1.elim⟩⟩
 ·by_cases hs: ∃r sz x y,c= .store (some r) sz x y
  ·obtain⟨r,sz,x,y,rfl⟩:=hs
   intro r0
   simp only[aB,COp.wid]
   have no: ∃ (pre:Prop) (out:D→Option Res→Prop),∀H,yI H (some r)=r0→ ∀K:D→aa→Prop,False↔ (pre∧ ∀d u,out d u→K d (om H (some r) u)):=⟨False,fun _ _=> True,fun _ _ _=> ⟨fun h=> h.elim,fun h=> h.1⟩⟩
   have conj: ∀ {A:Prop} {G:aa→(D→aa→Prop)→Prop},(∃ (pre:Prop) (out:D→Option Res→Prop),∀H,yI H (some r)=r0→ ∀K,G H K↔ (pre∧ ∀d u,out d u→K d (om H (some r) u)))→
    ∃ (pre:Prop) (out:D→Option Res→Prop),∀H,yI H (some r)=r0→ ∀K,(A∧G H K) ↔ (pre∧ ∀d u,out d u→K d (om H (some r) u)):=fun {A G} h=> by
    obtain⟨pre,out,h⟩:=h
    exact⟨A∧pre,out,fun H hr K=> by rw[h H hr K,and_assoc]⟩
   refine conj (conj ?_)
   cases ev σ x with
   | bptr id b off=>
     refine conj ?_
     cases r0 with
     | none=>
       refine⟨False,fun _ _=> True,fun H hr K=> ?_⟩
       have hr:H r=none:=hr
       rw[hr]
       exact⟨fun h=> h.elim,fun h=> h.1.elim⟩
     | some q=>
       cases q with
       | box b' cs=>
         refine⟨b'=b∧off+sz≤cs.length,fun d u=> d= .undef∧u=some (.box b' (setAt cs off (ev σ y).cells)),fun H hr K=> ?_⟩
         have hr:H r=some (.box b' cs):=hr
         rw[hr]
         constructor
         ·rintro⟨h1,h2,h3⟩
          exact⟨⟨h1,h2⟩,fun d u ⟨e1,e2⟩=> by subst e1;subst e2;exact h3⟩
         ·rintro⟨⟨h1,h2⟩,h3⟩
          exact⟨h1,h2,h3 _ _ ⟨rfl,rfl⟩⟩
       | row x' el' n' es=>
         refine⟨False,fun _ _=> True,fun H hr K=> ?_⟩
         have hr:H r=some (.row x' el' n' es):=hr
         rw[hr]
         exact⟨fun h=> h.elim,fun h=> h.1.elim⟩
       | iter b' s' p'=>
         refine⟨False,fun _ _=> True,fun H hr K=> ?_⟩
         have hr:H r=some (.iter b' s' p'):=hr
         rw[hr]
         exact⟨fun h=> h.elim,fun h=> h.1.elim⟩
       | tbox b' s' p'=>
         refine⟨False,fun _ _=> True,fun H hr K=> ?_⟩
         have hr:H r=some (.tbox b' s' p'):=hr
         rw[hr]
         exact⟨fun h=> h.elim,fun h=> h.1.elim⟩
       | mrow x' es'=>
         refine⟨False,fun _ _=> True,fun H hr K=> ?_⟩
         have hr:H r=some (.mrow x' es'):=hr
         rw[hr]
         exact⟨fun h=> h.elim,fun h=> h.1.elim⟩
       | miter b' c' l'=>
         refine⟨False,fun _ _=> True,fun H hr K=> ?_⟩
         have hr:H r=some (.miter b' c' l'):=hr
         rw[hr]
         exact⟨fun h=> h.elim,fun h=> h.1.elim⟩
   | eptr id v n i off=>
     refine conj ?_
     cases r0 with
     | none=>
       refine⟨False,fun _ _=> True,fun H hr K=> ?_⟩
       have hr:H r=none:=hr
       rw[hr]
       exact⟨fun h=> h.elim,fun h=> h.1.elim⟩
     | some q=>
       cases q with
       | row x' el' n' es=>
         refine⟨x'=v∧n'=n∧0 < n∧off+sz≤n∧i < es.length,fun d u=> d= .undef∧ ∃e,es[i]?=some e∧u=some (.row x' el' n' (es.set i (if off=0∧sz=n then ev σ y else .agg (setAt e.cells off (ev σ y).cells)))),fun H hr K=> ?_⟩
         have hr:H r=some (.row x' el' n' es):=hr
         rw[hr]
         constructor
         ·rintro⟨h1,h2,h3,h4,h5,h6⟩
          exact⟨⟨h1,h2,h3,h4,h5⟩,fun d u ⟨e1,e,e2,e3⟩=> by subst e1;subst e3;exact h6 e e2⟩
         ·rintro⟨⟨h1,h2,h3,h4,h5⟩,h6⟩
          exact⟨h1,h2,h3,h4,h5,fun e he=> h6 _ _ ⟨rfl,e,he,rfl⟩⟩
       | box b' cs=>
         refine⟨False,fun _ _=> True,fun H hr K=> ?_⟩
         have hr:H r=some (.box b' cs):=hr
         rw[hr]
         exact⟨fun h=> h.elim,fun h=> h.1.elim⟩
       | iter b' s' p'=>
         refine⟨False,fun _ _=> True,fun H hr K=> ?_⟩
         have hr:H r=some (.iter b' s' p'):=hr
         rw[hr]
         exact⟨fun h=> h.elim,fun h=> h.1.elim⟩
       | tbox b' s' p'=>
         refine⟨False,fun _ _=> True,fun H hr K=> ?_⟩
         have hr:H r=some (.tbox b' s' p'):=hr
         rw[hr]
         exact⟨fun h=> h.elim,fun h=> h.1.elim⟩
       | mrow x' es'=>
         refine⟨False,fun _ _=> True,fun H hr K=> ?_⟩
         have hr:H r=some (.mrow x' es'):=hr
         rw[hr]
         exact⟨fun h=> h.elim,fun h=> h.1.elim⟩
       | miter b' c' l'=>
         refine⟨False,fun _ _=> True,fun H hr K=> ?_⟩
         have hr:H r=some (.miter b' c' l'):=hr
         rw[hr]
         exact⟨fun h=> h.elim,fun h=> h.1.elim⟩
   | _=> exact no
  have hw:c.wid dst=dst:=by
   cases c
   case callb r f args=> exact absurd ⟨r,f,args,rfl⟩ hb
   case append rt el n b x y=>
    cases rt with
    | none=> rfl
    | some r=> exact absurd ⟨r,el,n,b,x,y,rfl⟩ h
   case store rt sz x y=>
    cases rt with
    | none=> rfl
    | some r=> exact absurd ⟨r,sz,x,y,rfl⟩ hs
   all_goals rfl
  rw[hw]
  exact(Lo S c dst σ Hr (fun r el n b x y e=> h ⟨r,el,n,b,x,y,e⟩) (fun r sz x y e=> hs ⟨r,sz,x,y,e⟩) (fun r f args e=> hb ⟨r,f,args,e⟩)).lin1
theorem AX (S:Nat→Spc) (c:COp) (dst:Option Nat) (σ:Sg) (Hr:aa):QO (c.wid dst) fun H K=> aB S c dst σ Hr H K:=by
 by_cases hb: ∃r f args,c= .callb r f args
 ·obtain⟨r,f,args,rfl⟩:=hb
  intro r0
  simp only[aB,COp.wid]
  have no: ∃ (pre:Prop) (out:D→List (Nat×Res)→Prop),∀H,nc H (some r)=r0→ ∀K:D→aa→Prop,False↔ (pre∧ ∀d u,out d u→K d (gD H (some r) u)):=⟨False,fun _ _=> True,fun _ _ _=> ⟨fun h=> h.elim,fun h=> h.1⟩⟩
  cases hs:S f with
  | none=> exact no
  | pure pc=> exact no
  | gen A hA=>
    by_cases hx:Ta r A (args.map (ev σ))
    ·obtain⟨p,o,h⟩:=id hx
     refine⟨p r0,fun d u=> o r0 d u,fun H hr K=> ?_⟩
     simp only[C7]
     rw[h,hr]
     exact⟨fun h=> h.2,fun h=> ⟨hx,h⟩⟩
    ·exact⟨False,fun _ _=> True,fun H _ K=> ⟨fun h=> absurd h.1 hx,fun h=> h.1.elim⟩⟩
 ·exact(Ln S c dst σ Hr hb).lin
theorem AY (S:Nat→Spc) (x:CI) (σ:Sg) (Hr:aa):QO x.wid fun H K=> Cm S x σ Hr H K:=by
 cases x with
 | frz t n=> exact(aG _).lin
 | op dst g c=>
   intro r0
   obtain⟨pre,out,h⟩:=AX S c dst σ Hr r0
   have h': ∀H,nc H (c.wid dst)=r0→ ∀K,aB S c dst σ Hr H K↔ (pre∧ ∀d u,out d u→K d (gD H (c.wid dst) u)):=h
   cases g with
   | none=> exact⟨pre,out,h⟩
   | some sb=>
     obtain⟨s,b⟩:=sb
     simp only[Cm,CI.wid]
     split
     ·rename_i t e1
      refine⟨t=b→pre,fun d u=> (t=b∧out d u)∨(t=(!b)∧d= .undef∧u= []),fun H hr K=> ?_⟩
      rw[h' H hr K]
      constructor
      ·rintro⟨h1,h2⟩
       refine⟨fun e=> (h1 e).1,fun d u hd=> ?_⟩
       rcases hd with⟨e,hd⟩ | ⟨e,rfl,rfl⟩
       ·exact(h1 e).2 d u hd
       ·rw[mS];exact h2 e
      ·rintro⟨h1,h2⟩
       refine⟨fun e=> ⟨h1 e,fun d u hd=> h2 d u (.inl ⟨e,hd⟩)⟩,fun e=> ?_⟩
       have:=h2 .undef [] (.inr ⟨e,rfl,rfl⟩)
       rwa [mS] at this
     ·exact⟨True,fun d u=> d= .undef∧u= [],fun H _ K=> ⟨fun h=> ⟨trivial,fun d u ⟨h1,h2⟩=> by subst h1;subst h2;rw[mS];exact h⟩,fun h=> by have:=h.2 .undef [] ⟨rfl,rfl⟩;rwa [mS] at this⟩⟩
     ·exact(aG _).lin r0
theorem tQ {σ σ':Sg} : ∀ (ps:List (Nat×Nat×Operand)) (cs:List D) (K:List D→Prop),(∀x∈ps.map (·.2.2),ev σ x=ev σ' x)→(iC σ ps cs K↔iC σ' ps cs K)
 | [],cs,K,_=> Iff.rfl
 | (off,sz,x)::r,cs,K,h=> by
  have hx:=h x (by simp)
  simp only[iC,hx]
  rw[tQ r _ K (fun y hy=> h y (by simp at hy ⊢;exact .inr hy))]
theorem ud {c:COp} {σ σ':Sg} {Hr:aa} {K:D→Prop} (h: ∀x∈c.ops,ev σ x=ev σ' x):am c σ Hr K↔am c σ' Hr K:=by
 cases c
 case build z ps=> simp only[am];exact tQ ps _ _ h
 case box el im x=> cases im <;> simp only[am];rw[h x (by simp[COp.ops])]
 case bslice el n ps=>
  have h': ∀x∈ps,ev σ x=ev σ' x:=h
  simp only[am];rw[List.map_congr_left h']
 case clo f caps=>
  have h': ∀x∈caps,ev σ x=ev σ' x:=h
  simp only[am];rw[List.map_congr_left h']
 case slice n x lo hi=>
  simp only[am]
  rw[h x (by simp[COp.ops])]
  have h1:lo.map (fun o=> ol (ev σ o))=lo.map (fun o=> ol (ev σ' o)):=by cases lo <;> simp;rw[h _ (by simp[COp.ops])]
  have h2:hi.map (fun o=> ol (ev σ o))=hi.map (fun o=> ol (ev σ' o)):=by cases hi <;> simp;rw[h _ (by simp[COp.ops])]
  rw[h1,h2]
 case sslice x lo hi=>
  simp only[am]
  rw[h x (by simp[COp.ops])]
  have h1:lo.map (fun o=> ol (ev σ o))=lo.map (fun o=> ol (ev σ' o)):=by cases lo <;> simp;rw[h _ (by simp[COp.ops])]
  have h2:hi.map (fun o=> ol (ev σ o))=hi.map (fun o=> ol (ev σ' o)):=by cases hi <;> simp;rw[h _ (by simp[COp.ops])]
  rw[h1,h2]
 case m mo xs=>
  have h': ∀x∈xs,ev σ x=ev σ' x:=h
  simp only[am];rw[List.map_congr_left h']
 case mm mx xs=>
  match xs with
  | []=> simp[am]
  | [x]=> simp[am]
  | [x,y]=> simp only[am];rw[h x (by simp[COp.ops]),h y (by simp[COp.ops])]
  | [x,y,z]=> simp only[am];rw[h x (by simp[COp.ops]),h y (by simp[COp.ops]),h z (by simp[COp.ops])]
  | _::_::_::_::_=> simp[am]
 case pick q x y=> simp only[am];rw[h q (by simp[COp.ops]),h x (by simp[COp.ops]),h y (by simp[COp.ops])]
 all_goals simp only[am]
 all_goals first
  | (rename_i x;rw[h x (by simp[COp.ops])];done)
  | (rename_i x y;rw[h x (by simp[COp.ops]),h y (by simp[COp.ops])];done)
  | (rename_i x i;rw[h x (by simp[COp.ops])];done)
  | skip
theorem K4 {S:Nat→Spc} {c:COp} {dst:Option Nat} {σ σ':Sg} {Hr H:aa} {K:D→aa→Prop} (h: ∀x∈c.ops,ev σ x=ev σ' x):aB S c dst σ Hr H K↔aB S c dst σ' Hr H K:=by
 cases c
 case call f args=>
  simp only[aB]
  rw[List.map_congr_left (fun x hx=> h x (by simpa [COp.ops] using hx))]
 case callv f args=>
  simp only[aB]
  rw[h f (by simp[COp.ops]),List.map_congr_left (fun x hx=> h x (by simp[COp.ops,hx]))]
 case callb r f args=>
  simp only[aB]
  rw[List.map_congr_left (fun x hx=> h x (by simpa [COp.ops] using hx))]
 case alloc el z=> exact Iff.rfl
 case box el im x=>
  cases im with
  | true=> exact(gV rfl).trans ((ud h).trans (gV rfl).symm)
  | false=> simp only[aB,bQ];rw[h x (by simp[COp.ops])]
 case tbx el x=> simp only[aB,bQ];rw[h x (by simp[COp.ops])]
 case nslice el n=> exact Iff.rfl
 case mslice el n ps=>
  have h': ∀x∈ps,ev σ x=ev σ' x:=h
  simp only[aB,bQ];rw[List.map_congr_left h']
 case mkslice el n b agg z l cc=> simp only[aB,bQ];rw[h l (by simp[COp.ops]),h cc (by simp[COp.ops])]
 case store rt sz x y=> simp only[aB];rw[h x (by simp[COp.ops]),h y (by simp[COp.ops])]
 case srange x=> exact Iff.rfl
 case snext x=> exact Iff.rfl
 case append rt el n b x y=>
  simp only[aB]
  rw[h x (by simp[COp.ops]),h y (by simp[COp.ops])]
 case clear n agg z x=> exact Iff.rfl
 case copy n x y=> exact Iff.rfl
 case appmk el n b agg z x c=> simp only[aB,bQ];rw[h x (by simp[COp.ops]),h c (by simp[COp.ops])]
 case m mo xs=>
  have h': ∀x∈xs,ev σ x=ev σ' x:=h
  cases mo <;> first
   | exact(gV rfl).trans ((ud h).trans (gV rfl).symm)
   | exact Iff.rfl
   | (simp only[aB,bQ];rw[List.map_congr_left h'])
 all_goals exact(gV rfl).trans ((ud h).trans (gV rfl).symm)
def QV:Operand→List Nat
 | .tmp t=> [t]
 | _=> []
def CI.reads:CI→List Nat
 | .op _ g c=> c.ops.flatMap QV++ (match g with | some (s,_)=> [s] | none=> [])
 | .frz _ _=> []
theorem xr {S:Nat→Spc} {x:CI} {σ σ':Sg} {Hr H:aa} {K:D→aa→Prop} (h: ∀t∈x.reads,σ t=σ' t):Cm S x σ Hr H K↔Cm S x σ' Hr H K:=by
 cases x with
 | frz t n=> exact Iff.rfl
 | op dst g c=>
   have hev: ∀y∈c.ops,ev σ y=ev σ' y:=fun y hy=> by
    cases y with
    | tmp t=> exact h t (by simp only[CI.reads,List.mem_append,List.mem_flatMap];exact .inl ⟨_,hy,by simp[QV]⟩)
    | _=> rfl
   have hp:=K4 (S:=S) (dst:=dst) (Hr:=Hr) (H:=H) (K:=K) hev
   cases g with
   | none=> exact hp
   | some sb=>
     obtain⟨s,b⟩:=sb
     simp only[Cm]
     rw[←h s (by simp[CI.reads])]
     split
     ·rw[hp]
     ·exact Iff.rfl
     ·exact Iff.rfl
end Go.Gv
