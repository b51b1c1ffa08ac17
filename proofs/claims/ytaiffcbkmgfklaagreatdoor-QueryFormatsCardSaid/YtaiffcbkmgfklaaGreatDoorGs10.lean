/- A part of the framework and of the walks: T3. -/
import Derived.Test.YtaiffcbkmgfklaaGreatDoorGs09
set_option linter.unusedSimpArgs false
set_option linter.unusedVariables false

namespace Go.Gv
def COp.ops:COp→List Operand
 | .mv x | .box _ _ x | .tbx _ x | .load _ _ x | .nilck x | .not x | .neg x | .conv _ x | .faddr _ x | .fld _ _ _ x | .ext x _ | .len x | .slen x=> [x]
 | .pick c x y=> [c,x,y]
 | .alloc _ _ | .nslice _ _ | .bad=> []
 | .build _ ps=> ps.map (·.2.2)
 | .bslice _ _ ps=> ps
 | .mslice _ _ ps=> ps
 | .store _ _ x y | .arith _ x y | .cmp _ x y | .eql _ _ _ x y | .scat x y | .iaddr _ x y | .sidx x y | .append _ _ _ _ x y=> [x,y]
 | .clo _ xs | .mm _ xs | .call _ xs | .callb _ _ xs=> xs
 | .appmk _ _ _ _ _ x y | .copy _ x y=> [x,y]
 | .clear _ _ _ x | .cap x | .srange x | .snext x | .sbytes x | .bstr x | .mkif _ x=> [x]
 | .mkslice _ _ _ _ _ l c=> [l,c]
 | .slice _ x lo hi | .sslice x lo hi=> x::lo.toList++hi.toList
 | .callv f xs=> f::xs
def qcs (A:PT):Prop:= ∃ (p:List D→Prop) (o:Nat→List D→D→Res→Prop),∀ (t:Nat) (ds:List D) (H:ae) (K:D→ae→Prop),A t ds H K↔ (p ds∧ ∀d u,o t ds d u→K d (aq H t (some u)))
def Rb (dst:Option Nat) (s:Spc) (args:List D) (H:ae) (K:D→ae→Prop):Prop:=match s with
 | .pure pc=> pc.pre args∧ ∀r,pc.post args r→K r H
 | .gen A _=> match dst with
   | some t=> qcs A∧A t args H K
   | none=> False
 | .none=> False
def Z5 (r:Nat) (A:PT) (args:List D):Prop:= ∃ (p:Option Res→Prop) (o:Option Res→D→Res→Prop),∀ (t:Nat) (H:ae) (K:D→ae→Prop),A t args H K↔ (p (H r)∧ ∀d u,o (H r) d u→K d (aq H r (some u)))
def IJ (r:Nat) (dst:Option Nat) (s:Spc) (args:List D) (H:ae) (K:D→ae→Prop):Prop:=match s with
 | .gen A _=> Z5 r A args∧A (dst.getD 0) args H K
 | _=> False
def bx (S:Nat→Spc) (c:COp) (dst:Option Nat) (σ:Sg) (Hr H:ae) (K:D→ae→Prop):Prop:=
 match c with
 | .call f args=> Rb dst (S f) (args.map (ev σ)) H K
 | .callb r f args=> IJ r dst (S f) (args.map (ev σ)) H K
 | .callv f args=> match ev σ f with
   | .clo g caps=> match S g with
     | .pure pc=> pc.pre (args.map (ev σ) ++caps)∧ ∀r,pc.post (args.map (ev σ) ++caps) r→K r H
     | _=> False
   | _=> False
 | .alloc el z=> dD (.alloc el z) dst σ H K
 | .box el false x=> dD (.box el false x) dst σ H K
 | .tbx el x=> dD (.tbx el x) dst σ H K
 | .nslice el n=> dD (.nslice el n) dst σ H K
 | .mslice el n ps=> dD (.mslice el n ps) dst σ H K
 | .mkslice el n b agg z l c=> dD (.mkslice el n b agg z l c) dst σ H K
 | .append rt el n b x y=> mK n (ev σ y) Hr fun es2=> match rt with
   | none=> match dst,ev σ x with
     | some t, .v (.slice none 0 0)=> es2.length*b≤140737488355328∧es2.length≤140737488355328∧ ∀v,K (.own t v) (aq H t (some (.row v el n es2)))
     | _,_=> False
   | some r=> match ev σ x with
     | .own id x=> id=r∧match H r with
       | some (.row x' el' n' es)=> x'=x∧el'=el∧n'=n∧(es.length+es2.length) *b≤140737488355328∧es.length+es2.length≤140737488355328∧ ∀v,K (.own r v) (aq H r (some (.row v el n (es++es2))))
       | _=> False
     | _=> False
 | .store rt sz x y=> (ev σ y).kn=true∧(ev σ y).cells.length=sz∧match rt with
   | none=> False
   | some r=> match ev σ x with
     | .bptr id b off=> id=r∧match H r with
       | some (.box b' cells)=> b'=b∧off+sz≤cells.length∧K .undef (aq H r (some (.box b' (setAt cells off (ev σ y).cells))))
       | _=> False
     | .eptr id x n i off=> id=r∧match H r with
       | some (.row x' el n' es)=> x'=x∧n'=n∧0 < n∧off+sz≤n∧i < es.length∧ ∀d,es[i]?=some d→
          K .undef (aq H r (some (.row x' el n' (es.set i (if off=0∧sz=n then ev σ y else .agg (setAt d.cells off (ev σ y).cells))))))
       | _=> False
     | _=> False
 | .clear .. | .copy .. | .srange .. | .snext .. => False
 | .appmk el n b agg z x c=> dD (.appmk el n b agg z x c) dst σ H K
 | c=> aJ c σ Hr fun d=> K d H
def COp.wid (c:COp) (dst:Option Nat):Option Nat:=
 match c with
 | .append (some r) _ _ _ _ _=> some r
 | .store (some r) _ _ _=> some r
 | .callb r _ _=> some r
 | _=> dst
def CI.wid:CI→Option Nat
 | .op d _ c=> c.wid d
 | .frz _ _=> none
def cK:List CI→ae→ae
 | [],H=> H
 | .frz _ _::_,H=> H
 | .op d g c::l,H=> fun i=> if(CI.op d g c).wid=some i then none else cK l H i
def mE (S:Nat→Spc):List CI→Sg→ae→ae→(Sg→ae→Prop)→Prop
 | [],σ,_,H,K=> K σ H
 | .frz _ _::r,σ,Hr,H,K=> mE S r σ (cK r Hr) H K
 | .op dst g c::r,σ,Hr,H,K=> om g σ (fun σ=> bx S c dst σ Hr H fun d H'=> mE S r (gJ σ dst d) Hr H' K) (fun σ=> mE S r (gJ σ dst .undef) Hr H K)
def H6 (S:Nat→Spc) (x:CI) (σ:Sg) (Hr H:ae) (K:D→ae→Prop):Prop:=
 match x with
 | .frz _ _=> False
 | .op dst g c=> match g with
   | none=> bx S c dst σ Hr H K
   | some (s,b)=> match σ s with
     | .v (.bool t)=> (t=b→bx S c dst σ Hr H K)∧(t=(!b)→K .undef H)
     | .undef=> K .undef H
     | _=> False
def CI.dst:CI→Option Nat
 | .op d _ _=> d
 | .frz _ _=> none
def VX (S:Nat→Spc):List (CI×ae)→Sg→ae→(Sg→ae→Prop)→Prop
 | [],σ,H,K=> K σ H
 | x::r,σ,H,K=> H6 S x.1 σ x.2 H fun d H'=> VX S r (gJ σ x.1.dst d) H' K
def NF (F: (D→Prop)→Prop):Prop:= ∃ (pre:Prop) (out:D→Prop),∀K,F K↔ (pre∧ ∀d,out d→K d)
theorem du (d:D):NF fun K=> K d:=⟨True,fun e=> e=d,fun K=> ⟨fun h=> ⟨trivial,fun e he=> he ▸h⟩,fun h=> h.2 d rfl⟩⟩
theorem sS:NF fun _=> False:=⟨False,fun _=> True,fun K=> ⟨fun h=> h.elim,fun h=> h.1⟩⟩
theorem bT {A:Prop} {F: (D→Prop)→Prop} (h:NF F):NF fun K=> A∧F K:=by
 obtain⟨pre,out,h⟩:=h
 exact⟨A∧pre,out,fun K=> by dsimp only;rw[h K,and_assoc]⟩
theorem pV {A:Prop} {F: (D→Prop)→Prop} (h:NF F):NF fun K=> A→F K:=by
 obtain⟨pre,out,h⟩:=h
 refine⟨A→pre,fun d=> A∧out d,fun K=> ?_⟩
 constructor
 ·intro hf
  exact⟨fun ha=> ((h K).1 (hf ha)).1,fun d hd=> ((h K).1 (hf hd.1)).2 d hd.2⟩
 ·intro hf ha
  exact(h K).2 ⟨hf.1 ha,fun d hd=> hf.2 d ⟨ha,hd⟩⟩
theorem An {α:Type} {F:α→(D→Prop)→Prop} (h: ∀x,NF (F x)):NF fun K=> ∀x,F x K:=by
 have h': ∀x,∃ (p:Prop× (D→Prop)),∀K,F x K↔ (p.1∧ ∀d,p.2 d→K d):=fun x=> by
  obtain⟨pre,out,hx⟩:=h x
  exact⟨(pre,out),hx⟩
 obtain⟨p,hp⟩:=Classical.axiomOfChoice h'
 refine⟨∀x,(p x).1,fun d=> ∃x,(p x).2 d,fun K=> ?_⟩
 constructor
 ·intro hf
  exact⟨fun x=> ((hp x K).1 (hf x)).1,fun d ⟨x,hx⟩=> ((hp x K).1 (hf x)).2 d hx⟩
 ·intro hf x
  exact(hp x K).2 ⟨hf.1 x,fun d hd=> hf.2 d ⟨x,hd⟩⟩
theorem Ua {F G: (D→Prop)→Prop} (h1:NF F) (h2:NF G):NF fun K=> F K∧G K:=by
 obtain⟨p1,o1,h1⟩:=h1
 obtain⟨p2,o2,h2⟩:=h2
 refine⟨p1∧p2,fun d=> o1 d∨o2 d,fun K=> ?_⟩
 dsimp only
 rw[h1 K,h2 K]
 constructor
 ·rintro⟨⟨a,b⟩,c,d⟩
  exact⟨⟨a,c⟩,fun e he=> he.elim (b e) (d e)⟩
 ·rintro⟨⟨a,c⟩,b⟩
  exact⟨⟨a,fun e he=> b e (.inl he)⟩,c,fun e he=> b e (.inr he)⟩
theorem IZ (σ:Sg): ∀ (ps:List (Nat×Nat×Operand)) (cs:List D),NF fun K=> kN σ ps cs fun cs=> K (.agg cs)
 | [],cs=> du _
 | (off,sz,x)::r,cs=> bT (bT (IZ σ r _))
theorem Rq (op:BinOp) (k:IntKind) (a b:Int):NF fun K=> ni op k a b K:=by
 cases op <;> simp only[ni] <;> first
  | exact sS
  | exact bT (du _)
  | exact bT (bT (du _))
theorem KD (lo hi:Option (Option (IntKind×Int))) (len:Nat) (f:Nat→Nat→D):NF fun K=> yp lo hi len fun l h=> K (f l h):=by
 unfold yp
 split <;> first
  | exact du _
  | exact bT (bT (du _))
  | exact bT (bT (bT (du _)))
  | exact sS
theorem Mo (c:COp) (σ:Sg) (Hr:ae):NF fun K=> aJ c σ Hr K:=by
 unfold aJ
 split <;> first
  | exact du _
  | exact sS
  | exact IZ σ _ _
  | exact bT (du _)
  | skip
 all_goals
  (repeat' split) <;> first
    | exact du _
    | exact sS
    | exact Ua (pV (du _)) (pV (du _))
    | exact bT (du _)
    | exact bT (bT (du _))
    | exact bT (bT (bT (du _)))
    | exact bT (bT (bT (bT (du _))))
    | exact bT (bT (bT (bT (An fun _=> pV (du _)))))
    | exact bT (bT (bT (An fun _=> pV (du _))))
    | exact bT (bT (An fun _=> pV (du _)))
    | exact bT (Rq _ _ _ _)
    | exact pV (du _)
    | exact bT (pV (du _))
    | exact bT sS
    | exact bT (bT (KD _ _ _ _))
    | exact bT (KD _ _ _ _)
    | exact KD _ _ _ fun _ _=> _
    | skip
def ic (H:ae) (dst:Option Nat) (u:Option Res):ae:=
 match dst,u with
 | some t,some r=> aq H t (some r)
 | _,_=> H
def LinU0 (dst:Option Nat) (F:ae→(D→ae→Prop)→Prop):Prop:=
 ∃ (pre:Prop) (out:D→Option Res→Prop),∀H K,F H K↔ (pre∧ ∀d u,out d u→K d (ic H dst u))
def sQ (H:ae):Option Nat→Option Res
 | some t=> H t
 | none=> none
def Z4 (wid:Option Nat) (F:ae→(D→ae→Prop)→Prop):Prop:=
 ∀r0,∃ (pre:Prop) (out:D→Option Res→Prop),∀H,sQ H wid=r0→ ∀K,F H K↔ (pre∧ ∀d u,out d u→K d (ic H wid u))
theorem LinU0.lin {dst:Option Nat} {F:ae→(D→ae→Prop)→Prop} (h:LinU0 dst F):Z4 dst F:=fun _=> by
 obtain⟨pre,out,h⟩:=h
 exact⟨pre,out,fun H _ K=> h H K⟩
theorem ms (H:ae) (dst:Option Nat):ic H dst none=H:=by cases dst <;> rfl
theorem KE {dst:Option Nat} {G: (D→Prop)→Prop} (h:NF G):LinU0 dst fun H K=> G fun d=> K d H:=by
 obtain⟨pre,out,h⟩:=h
 refine⟨pre,fun d u=> out d∧u=none,fun H K=> ?_⟩
 dsimp only
 rw[h]
 constructor
 ·rintro⟨a,b⟩
  exact⟨a,fun d u ⟨h1,h2⟩=> by subst h2;rw[ms];exact b d h1⟩
 ·rintro⟨a,b⟩
  exact⟨a,fun d h1=> by have:=b d none ⟨h1,rfl⟩;rwa [ms] at this⟩
theorem bH (dst:Option Nat):LinU0 dst fun _ _=> False:=⟨False,fun _ _=> True,fun _ _=> ⟨fun h=> h.elim,fun h=> h.1⟩⟩
theorem oV {t:Nat} {α:Type} {A:Prop} (f:α→D) (r:α→Res):LinU0 (some t) fun H K=> A∧ ∀b,K (f b) (aq H t (some (r b))):=by
 refine⟨A,fun d u=> ∃b,d=f b∧u=some (r b),fun H K=> ?_⟩
 constructor
 ·rintro⟨a,h⟩
  exact⟨a,fun d u ⟨b,h1,h2⟩=> by subst h1;subst h2;exact h b⟩
 ·rintro⟨a,h⟩
  exact⟨a,fun b=> h _ _ ⟨b,rfl,rfl⟩⟩
theorem LinU0.congr {dst:Option Nat} {F G:ae→(D→ae→Prop)→Prop} (h:LinU0 dst F) (hfg: ∀H K,G H K↔F H K):LinU0 dst G:=by
 obtain⟨pre,out,h⟩:=h
 exact⟨pre,out,fun H K=> (hfg H K).trans (h H K)⟩
theorem nJ {S:Nat→Spc} {c:COp} {dst:Option Nat} {σ:Sg} {Hr H:ae} {K:D→ae→Prop} (h:c.isRead=true):bx S c dst σ Hr H K↔aJ c σ Hr fun d=> K d H:=by
 cases c <;> first | exact Iff.rfl | (simp[COp.isRead] at h;done) | skip
 rename_i el im x
 cases im
 ·simp[COp.isRead] at h
 ·exact Iff.rfl
theorem Ub {dst:Option Nat} {n:Nat} {d:D} {Hr:ae} {F:List D→ae→(D→ae→Prop)→Prop} (h: ∀es,LinU0 dst (F es)):LinU0 dst fun H K=> mK n d Hr fun es=> F es H K:=by
 have conj: ∀ {A:Prop} {G:ae→(D→ae→Prop)→Prop},LinU0 dst G→LinU0 dst fun H K=> A∧G H K:=fun {A G} h=> by
  obtain⟨pre,out,h⟩:=h
  exact⟨A∧pre,out,fun H K=> by dsimp only;rw[h H K,and_assoc]⟩
 unfold mK
 split
 ·exact conj (h _)
 ·split
  ·exact conj (conj (h _))
  ·exact bH _
 ·exact h _
 ·split
  ·exact conj (conj (conj (h _)))
  ·exact bH _
 ·exact bH _
theorem Uc {wid:Option Nat} {n:Nat} {d:D} {Hr:ae} {r0:Option Res} {F:List D→ae→(D→ae→Prop)→Prop}
 (h: ∀es,∃ (pre:Prop) (out:D→Option Res→Prop),∀H,sQ H wid=r0→ ∀K,F es H K↔ (pre∧ ∀d u,out d u→K d (ic H wid u))):
 ∃ (pre:Prop) (out:D→Option Res→Prop),∀H,sQ H wid=r0→ ∀K,(mK n d Hr fun es=> F es H K) ↔ (pre∧ ∀d u,out d u→K d (ic H wid u)):=by
 have conj: ∀ {A:Prop} {G:ae→(D→ae→Prop)→Prop},(∃ (pre:Prop) (out:D→Option Res→Prop),∀H,sQ H wid=r0→ ∀K,G H K↔ (pre∧ ∀d u,out d u→K d (ic H wid u)))→
  ∃ (pre:Prop) (out:D→Option Res→Prop),∀H,sQ H wid=r0→ ∀K,(A∧G H K) ↔ (pre∧ ∀d u,out d u→K d (ic H wid u)):=fun {A G} h=> by
  obtain⟨pre,out,h⟩:=h
  exact⟨A∧pre,out,fun H hr K=> by rw[h H hr K,and_assoc]⟩
 have no: ∃ (pre:Prop) (out:D→Option Res→Prop),∀H,sQ H wid=r0→ ∀K:D→ae→Prop,False↔ (pre∧ ∀d u,out d u→K d (ic H wid u)):=⟨False,fun _ _=> True,fun _ _ _=> ⟨fun h=> h.elim,fun h=> h.1⟩⟩
 unfold mK
 split
 ·exact conj (h _)
 ·split
  ·exact conj (conj (h _))
  ·exact no
 ·exact h _
 ·split
  ·exact conj (conj (conj (h _)))
  ·exact no
 ·exact no
theorem Rr (S:Nat→Spc) (c:COp) (dst:Option Nat) (σ:Sg) (Hr:ae) (hna: ∀r el n b x y,c≠ .append (some r) el n b x y) (hns: ∀r sz x y,c≠ .store (some r) sz x y) (hnb: ∀r f args,c≠ .callb r f args):LinU0 dst fun H K=> bx S c dst σ Hr H K:=by
 by_cases hro:c.isRead=true
 ·exact(KE (Mo c σ Hr)).congr fun H K=> nJ hro
 cases c
 case call f args=>
  simp only[bx]
  cases S f with
  | pure pc=> exact KE (G:=fun K=> pc.pre (args.map (ev σ))∧ ∀r,pc.post (args.map (ev σ)) r→K r) (bT (An fun r=> pV (du r)))
  | none=> exact bH dst
  | gen A hA=>
    cases dst with
    | none=> exact bH none
    | some t=>
      by_cases hf:qcs A
      ·obtain⟨p,o,h⟩:=id hf
       refine⟨p (args.map (ev σ)),fun d u=> ∃u',u=some u'∧o t (args.map (ev σ)) d u',fun H K=> ?_⟩
       simp only[Rb]
       rw[h t]
       constructor
       ·rintro⟨_,a,b⟩
        exact⟨a,fun d u ⟨u',e,h1⟩=> by subst e;exact b d u' h1⟩
       ·rintro⟨a,b⟩
        exact⟨hf,a,fun d u h1=> b d (some u) ⟨u,rfl,h1⟩⟩
      ·exact(bH (some t)).congr fun H K=> ⟨fun h=> hf h.1,fun h=> h.elim⟩
 case callb r f args=> exact absurd rfl (hnb r f args)
 case callv f args=>
  simp only[bx]
  split
  ·rename_i g caps _
   split
   ·rename_i pc _
    exact KE (G:=fun K=> pc.pre (args.map (ev σ) ++caps)∧ ∀r,pc.post (args.map (ev σ) ++caps) r→K r) (bT (An fun r=> pV (du r)))
   ·exact bH dst
  ·exact bH dst
 case alloc el z=>
  cases dst with
  | none=> simp only[bx,dD];exact bH _
  | some t=> exact(oV (t:=t) (A:=True) (fun b=> D.bptr t b 0) (fun b=> Res.box b (z.map tb))).congr (fun H K=> by simp only[bx,dD,true_and])
 case box el im x=>
  cases im with
  | true=> exact absurd rfl hro
  | false=>
    cases dst with
    | none=> simp only[bx,dD];exact bH _
    | some t=> exact(oV (t:=t) (A:=(ev σ x).kn=true) (fun b=> D.bptr t b 0) (fun b=> Res.box b (ev σ x).cells)).congr (fun H K=> by simp only[bx,dD])
 case tbx el x=>
  cases dst with
  | none=> simp only[bx,dD];exact bH _
  | some t=> exact(oV (t:=t) (A:=(ev σ x).kn=true) (fun b=> D.bptr t b 0) (fun b=> Res.tbox el b (ev σ x).cells)).congr (fun H K=> by simp only[bx,dD])
 case nslice el n=>
  cases dst with
  | none=> simp only[bx,dD];exact bH _
  | some t=> exact(oV (t:=t) (A:=True) (fun x=> D.own t x) (fun x=> Res.row x el n [])).congr (fun H K=> by simp only[bx,dD,true_and])
 case mslice el n ps=>
  cases dst with
  | none=> simp only[bx,dD];exact bH _
  | some t=> exact(oV (t:=t) (A:=lS n (ps.map (ev σ))) (fun x=> D.own t x) (fun x=> Res.row x el n (ps.map (ev σ)))).congr (fun H K=> by simp only[bx,dD])
 case mkslice el n b agg z l cc=>
  cases dst with
  | none=> simp only[bx,dD];exact bH _
  | some t=>
    simp only[bx,dD]
    split
    ·rename_i e1 e2
     rename_i k1 l' k2 c'
     exact(oV (t:=t) (A:=0≤l'∧l'≤c'∧b*c'≤140737488355328∧c'≤140737488355328) (fun x=> D.own t x) (fun x=> Res.row x el n (List.replicate l'.toNat (if agg then .agg (z.map tb) else tb (z.headD (.bool false)))))).congr (fun H K=> by simp only[and_assoc])
    ·exact bH _
 case store rt sz x y=>
  cases rt with
  | some r=> exact absurd rfl (hns r sz x y)
  | none=> exact(bH dst).congr fun H K=> ⟨fun h=> h.2.2.elim,fun h=> h.elim⟩
 case srange x=> exact bH dst
 case snext x=> exact bH dst
 case append rt el n b x y=>
  cases rt with
  | some r=> exact absurd rfl (hna r el n b x y)
  | none=>
    simp only[bx]
    refine Ub fun es2=> ?_
    split
    ·rename_i t _
     exact(oV (t:=t) (A:=es2.length*b≤140737488355328∧es2.length≤140737488355328) (fun v=> D.own t v) (fun v=> Res.row v el n es2)).congr (fun H K=> by simp only[and_assoc])
    ·exact bH _
 case clear n agg z x=> exact bH dst
 case copy n x y=> exact bH dst
 case appmk el n b agg z x c=>
  simp only[bx,dD]
  split
  ·cases dst with
   | none=> exact bH _
   | some t=>
     cases hc:vj (ev σ c) with
     | none=> exact bH _
     | some p=>
       obtain⟨k,c'⟩:=p
       exact(oV (t:=t) (A:=0≤c'∧c'*b≤140737488355328∧c'≤140737488355328) (fun x=> D.own t x) (fun x=> Res.row x el n (List.replicate c'.toNat (VV agg z)))).congr (fun H K=> by simp only[and_assoc])
  ·exact bH _
 all_goals exact absurd rfl hro
theorem F5 (S:Nat→Spc) (c:COp) (dst:Option Nat) (σ:Sg) (Hr:ae):Z4 (c.wid dst) fun H K=> bx S c dst σ Hr H K:=by
 by_cases h: ∃r el n b x y,c= .append (some r) el n b x y
 ·obtain⟨r,el,n,b,x,y,rfl⟩:=h
  intro r0
  simp only[bx,COp.wid]
  refine Uc fun es2=> ?_
  cases ev σ x with
  | own id v=>
    cases r0 with
    | none=>
      refine⟨False,fun _ _=> True,fun H hr K=> ?_⟩
      have hr:H r=none:=hr
      rw[hr]
      exact⟨fun h=> h.2.elim,fun h=> h.1.elim⟩
    | some q=>
      cases q with
      | box b' cs=>
        refine⟨False,fun _ _=> True,fun H hr K=> ?_⟩
        have hr:H r=some (.box b' cs):=hr
        rw[hr]
        exact⟨fun h=> h.2.elim,fun h=> h.1.elim⟩
      | iter b' s' p'=>
        refine⟨False,fun _ _=> True,fun H hr K=> ?_⟩
        have hr:H r=some (.iter b' s' p'):=hr
        rw[hr]
        exact⟨fun h=> h.2.elim,fun h=> h.1.elim⟩
      | tbox b' s' p'=>
        refine⟨False,fun _ _=> True,fun H hr K=> ?_⟩
        have hr:H r=some (.tbox b' s' p'):=hr
        rw[hr]
        exact⟨fun h=> h.2.elim,fun h=> h.1.elim⟩
      | row x' el' n' es=>
        refine⟨id=r∧x'=v∧el'=el∧n'=n∧(es.length+es2.length) *b≤140737488355328∧es.length+es2.length≤140737488355328,fun d u=> ∃v,d= .own r v∧u=some (.row v el n (es++es2)),fun H hr K=> ?_⟩
        have hr:H r=some (.row x' el' n' es):=hr
        rw[hr]
        constructor
        ·rintro⟨h1,h2,h3,h4,h5,h6,h7⟩
         exact⟨⟨h1,h2,h3,h4,h5,h6⟩,fun d u ⟨v,e1,e2⟩=> by subst e1;subst e2;exact h7 v⟩
        ·rintro⟨⟨h1,h2,h3,h4,h5,h6⟩,h7⟩
         exact⟨h1,h2,h3,h4,h5,h6,fun v=> h7 _ _ ⟨v,rfl,rfl⟩⟩
  | _=> exact⟨False,fun _ _=> True,fun H hr K=> ⟨fun h=> h.elim,fun h=> h.1.elim⟩⟩
 ·by_cases hs: ∃r sz x y,c= .store (some r) sz x y
  ·obtain⟨r,sz,x,y,rfl⟩:=hs
   intro r0
   simp only[bx,COp.wid]
   have no: ∃ (pre:Prop) (out:D→Option Res→Prop),∀H,sQ H (some r)=r0→ ∀K:D→ae→Prop,False↔ (pre∧ ∀d u,out d u→K d (ic H (some r) u)):=⟨False,fun _ _=> True,fun _ _ _=> ⟨fun h=> h.elim,fun h=> h.1⟩⟩
   have conj: ∀ {A:Prop} {G:ae→(D→ae→Prop)→Prop},(∃ (pre:Prop) (out:D→Option Res→Prop),∀H,sQ H (some r)=r0→ ∀K,G H K↔ (pre∧ ∀d u,out d u→K d (ic H (some r) u)))→
    ∃ (pre:Prop) (out:D→Option Res→Prop),∀H,sQ H (some r)=r0→ ∀K,(A∧G H K) ↔ (pre∧ ∀d u,out d u→K d (ic H (some r) u)):=fun {A G} h=> by
    obtain⟨pre,out,h⟩:=h
    exact⟨A∧pre,out,fun H hr K=> by rw[h H hr K,and_assoc]⟩
   refine conj (conj ?_)
   cases ev σ x with
   | bptr id b off=>
     refine conj ?_
     cases r0 with
     | none=>
       refine⟨False,fun _ _=> True,fun H hr K=> ?_⟩
       have hr:H r=none:=hr
       rw[hr]
       exact⟨fun h=> h.elim,fun h=> h.1.elim⟩
     | some q=>
       cases q with
       | box b' cs=>
         refine⟨b'=b∧off+sz≤cs.length,fun d u=> d= .undef∧u=some (.box b' (setAt cs off (ev σ y).cells)),fun H hr K=> ?_⟩
         have hr:H r=some (.box b' cs):=hr
         rw[hr]
         constructor
         ·rintro⟨h1,h2,h3⟩
          exact⟨⟨h1,h2⟩,fun d u ⟨e1,e2⟩=> by subst e1;subst e2;exact h3⟩
         ·rintro⟨⟨h1,h2⟩,h3⟩
          exact⟨h1,h2,h3 _ _ ⟨rfl,rfl⟩⟩
       | row x' el' n' es=>
         refine⟨False,fun _ _=> True,fun H hr K=> ?_⟩
         have hr:H r=some (.row x' el' n' es):=hr
         rw[hr]
         exact⟨fun h=> h.elim,fun h=> h.1.elim⟩
       | iter b' s' p'=>
         refine⟨False,fun _ _=> True,fun H hr K=> ?_⟩
         have hr:H r=some (.iter b' s' p'):=hr
         rw[hr]
         exact⟨fun h=> h.elim,fun h=> h.1.elim⟩
       | tbox b' s' p'=>
         refine⟨False,fun _ _=> True,fun H hr K=> ?_⟩
         have hr:H r=some (.tbox b' s' p'):=hr
         rw[hr]
         exact⟨fun h=> h.elim,fun h=> h.1.elim⟩
   | eptr id v n i off=>
     refine conj ?_
     cases r0 with
     | none=>
       refine⟨False,fun _ _=> True,fun H hr K=> ?_⟩
       have hr:H r=none:=hr
       rw[hr]
       exact⟨fun h=> h.elim,fun h=> h.1.elim⟩
     | some q=>
       cases q with
       | row x' el' n' es=>
         refine⟨x'=v∧n'=n∧0 < n∧off+sz≤n∧i < es.length,fun d u=> d= .undef∧ ∃e,es[i]?=some e∧u=some (.row x' el' n' (es.set i (if off=0∧sz=n then ev σ y else .agg (setAt e.cells off (ev σ y).cells)))),fun H hr K=> ?_⟩
         have hr:H r=some (.row x' el' n' es):=hr
         rw[hr]
         constructor
         ·rintro⟨h1,h2,h3,h4,h5,h6⟩
          exact⟨⟨h1,h2,h3,h4,h5⟩,fun d u ⟨e1,e,e2,e3⟩=> by subst e1;subst e3;exact h6 e e2⟩
         ·rintro⟨⟨h1,h2,h3,h4,h5⟩,h6⟩
          exact⟨h1,h2,h3,h4,h5,fun e he=> h6 _ _ ⟨rfl,e,he,rfl⟩⟩
       | box b' cs=>
         refine⟨False,fun _ _=> True,fun H hr K=> ?_⟩
         have hr:H r=some (.box b' cs):=hr
         rw[hr]
         exact⟨fun h=> h.elim,fun h=> h.1.elim⟩
       | iter b' s' p'=>
         refine⟨False,fun _ _=> True,fun H hr K=> ?_⟩
         have hr:H r=some (.iter b' s' p'):=hr
         rw[hr]
         exact⟨fun h=> h.elim,fun h=> h.1.elim⟩
       | tbox b' s' p'=>
         refine⟨False,fun _ _=> True,fun H hr K=> ?_⟩
         have hr:H r=some (.tbox b' s' p'):=hr
         rw[hr]
         exact⟨fun h=> h.elim,fun h=> h.1.elim⟩
   | _=> exact no
  by_cases hb: ∃r f args,c= .callb r f args
  ·obtain⟨r,f,args,rfl⟩:=hb
   intro r0
   simp only[bx,COp.wid]
   have no: ∃ (pre:Prop) (out:D→Option Res→Prop),∀H,sQ H (some r)=r0→ ∀K:D→ae→Prop,False↔ (pre∧ ∀d u,out d u→K d (ic H (some r) u)):=⟨False,fun _ _=> True,fun _ _ _=> ⟨fun h=> h.elim,fun h=> h.1⟩⟩
   cases hs:S f with
   | none=> exact no
   | pure pc=> exact no
   | gen A hA=>
     by_cases hx:Z5 r A (args.map (ev σ))
     ·obtain⟨p,o,h⟩:=id hx
      refine⟨p r0,fun d u=> ∃u',u=some u'∧o r0 d u',fun H hr K=> ?_⟩
      have hr:H r=r0:=hr
      simp only[IJ]
      rw[h,hr]
      constructor
      ·rintro⟨_,a,b⟩
       exact⟨a,fun d u ⟨u',e,h1⟩=> by subst e;exact b d u' h1⟩
      ·rintro⟨a,b⟩
       exact⟨hx,a,fun d u h1=> b d (some u) ⟨u,rfl,h1⟩⟩
     ·exact⟨False,fun _ _=> True,fun H _ K=> ⟨fun h=> absurd h.1 hx,fun h=> h.1.elim⟩⟩
  have hw:c.wid dst=dst:=by
   cases c
   case callb r f args=> exact absurd ⟨r,f,args,rfl⟩ hb
   case append rt el n b x y=>
    cases rt with
    | none=> rfl
    | some r=> exact absurd ⟨r,el,n,b,x,y,rfl⟩ h
   case store rt sz x y=>
    cases rt with
    | none=> rfl
    | some r=> exact absurd ⟨r,sz,x,y,rfl⟩ hs
   all_goals rfl
  rw[hw]
  exact(Rr S c dst σ Hr (fun r el n b x y e=> h ⟨r,el,n,b,x,y,e⟩) (fun r sz x y e=> hs ⟨r,sz,x,y,e⟩) (fun r f args e=> hb ⟨r,f,args,e⟩)).lin
theorem F6 (S:Nat→Spc) (x:CI) (σ:Sg) (Hr:ae):Z4 x.wid fun H K=> H6 S x σ Hr H K:=by
 cases x with
 | frz t n=> exact(bH _).lin
 | op dst g c=>
   intro r0
   obtain⟨pre,out,h⟩:=F5 S c dst σ Hr r0
   have h': ∀H,sQ H (c.wid dst)=r0→ ∀K,bx S c dst σ Hr H K↔ (pre∧ ∀d u,out d u→K d (ic H (c.wid dst) u)):=h
   cases g with
   | none=> exact⟨pre,out,h⟩
   | some sb=>
     obtain⟨s,b⟩:=sb
     simp only[H6,CI.wid]
     split
     ·rename_i t e1
      refine⟨t=b→pre,fun d u=> (t=b∧out d u)∨(t=(!b)∧d= .undef∧u=none),fun H hr K=> ?_⟩
      rw[h' H hr K]
      constructor
      ·rintro⟨h1,h2⟩
       refine⟨fun e=> (h1 e).1,fun d u hd=> ?_⟩
       rcases hd with⟨e,hd⟩ | ⟨e,rfl,rfl⟩
       ·exact(h1 e).2 d u hd
       ·rw[ms];exact h2 e
      ·rintro⟨h1,h2⟩
       refine⟨fun e=> ⟨h1 e,fun d u hd=> h2 d u (.inl ⟨e,hd⟩)⟩,fun e=> ?_⟩
       have:=h2 .undef none (.inr ⟨e,rfl,rfl⟩)
       rwa [ms] at this
     ·exact⟨True,fun d u=> d= .undef∧u=none,fun H _ K=> ⟨fun h=> ⟨trivial,fun d u ⟨h1,h2⟩=> by subst h1;subst h2;rw[ms];exact h⟩,fun h=> by have:=h.2 .undef none ⟨rfl,rfl⟩;rwa [ms] at this⟩⟩
     ·exact(bH _).lin r0
theorem yq {σ σ':Sg} : ∀ (ps:List (Nat×Nat×Operand)) (cs:List D) (K:List D→Prop),(∀x∈ps.map (·.2.2),ev σ x=ev σ' x)→(kN σ ps cs K↔kN σ' ps cs K)
 | [],cs,K,_=> Iff.rfl
 | (off,sz,x)::r,cs,K,h=> by
  have hx:=h x (by simp)
  simp only[kN,hx]
  rw[yq r _ K (fun y hy=> h y (by simp at hy ⊢;exact .inr hy))]
theorem Fs {c:COp} {σ σ':Sg} {Hr:ae} {K:D→Prop} (h: ∀x∈c.ops,ev σ x=ev σ' x):aJ c σ Hr K↔aJ c σ' Hr K:=by
 cases c
 case build z ps=> simp only[aJ];exact yq ps _ _ h
 case box el im x=> cases im <;> simp only[aJ];rw[h x (by simp[COp.ops])]
 case bslice el n ps=>
  have h': ∀x∈ps,ev σ x=ev σ' x:=h
  simp only[aJ];rw[List.map_congr_left h']
 case clo f caps=>
  have h': ∀x∈caps,ev σ x=ev σ' x:=h
  simp only[aJ];rw[List.map_congr_left h']
 case slice n x lo hi=>
  simp only[aJ]
  rw[h x (by simp[COp.ops])]
  have h1:lo.map (fun o=> vj (ev σ o))=lo.map (fun o=> vj (ev σ' o)):=by cases lo <;> simp;rw[h _ (by simp[COp.ops])]
  have h2:hi.map (fun o=> vj (ev σ o))=hi.map (fun o=> vj (ev σ' o)):=by cases hi <;> simp;rw[h _ (by simp[COp.ops])]
  rw[h1,h2]
 case sslice x lo hi=>
  simp only[aJ]
  rw[h x (by simp[COp.ops])]
  have h1:lo.map (fun o=> vj (ev σ o))=lo.map (fun o=> vj (ev σ' o)):=by cases lo <;> simp;rw[h _ (by simp[COp.ops])]
  have h2:hi.map (fun o=> vj (ev σ o))=hi.map (fun o=> vj (ev σ' o)):=by cases hi <;> simp;rw[h _ (by simp[COp.ops])]
  rw[h1,h2]
 case mm mx xs=>
  match xs with
  | []=> simp[aJ]
  | [x]=> simp[aJ]
  | [x,y]=> simp only[aJ];rw[h x (by simp[COp.ops]),h y (by simp[COp.ops])]
  | [x,y,z]=> simp only[aJ];rw[h x (by simp[COp.ops]),h y (by simp[COp.ops]),h z (by simp[COp.ops])]
  | _::_::_::_::_=> simp[aJ]
 case pick q x y=> simp only[aJ];rw[h q (by simp[COp.ops]),h x (by simp[COp.ops]),h y (by simp[COp.ops])]
 all_goals simp only[aJ]
 all_goals first
  | (rename_i x;rw[h x (by simp[COp.ops])];done)
  | (rename_i x y;rw[h x (by simp[COp.ops]),h y (by simp[COp.ops])];done)
  | (rename_i x i;rw[h x (by simp[COp.ops])];done)
  | skip
theorem Ra {S:Nat→Spc} {c:COp} {dst:Option Nat} {σ σ':Sg} {Hr H:ae} {K:D→ae→Prop} (h: ∀x∈c.ops,ev σ x=ev σ' x):bx S c dst σ Hr H K↔bx S c dst σ' Hr H K:=by
 cases c
 case call f args=>
  simp only[bx]
  rw[List.map_congr_left (fun x hx=> h x (by simpa [COp.ops] using hx))]
 case callv f args=>
  simp only[bx]
  rw[h f (by simp[COp.ops]),List.map_congr_left (fun x hx=> h x (by simp[COp.ops,hx]))]
 case callb r f args=>
  simp only[bx]
  rw[List.map_congr_left (fun x hx=> h x (by simpa [COp.ops] using hx))]
 case alloc el z=> exact Iff.rfl
 case box el im x=>
  cases im with
  | true=> exact(nJ rfl).trans ((Fs h).trans (nJ rfl).symm)
  | false=> simp only[bx,dD];rw[h x (by simp[COp.ops])]
 case tbx el x=> simp only[bx,dD];rw[h x (by simp[COp.ops])]
 case nslice el n=> exact Iff.rfl
 case mslice el n ps=>
  have h': ∀x∈ps,ev σ x=ev σ' x:=h
  simp only[bx,dD];rw[List.map_congr_left h']
 case mkslice el n b agg z l cc=> simp only[bx,dD];rw[h l (by simp[COp.ops]),h cc (by simp[COp.ops])]
 case store rt sz x y=> simp only[bx];rw[h x (by simp[COp.ops]),h y (by simp[COp.ops])]
 case srange x=> exact Iff.rfl
 case snext x=> exact Iff.rfl
 case append rt el n b x y=>
  simp only[bx]
  rw[h x (by simp[COp.ops]),h y (by simp[COp.ops])]
 case clear n agg z x=> exact Iff.rfl
 case copy n x y=> exact Iff.rfl
 case appmk el n b agg z x c=> simp only[bx,dD];rw[h x (by simp[COp.ops]),h c (by simp[COp.ops])]
 all_goals exact(nJ rfl).trans ((Fs h).trans (nJ rfl).symm)
def XZ:Operand→List Nat
 | .tmp t=> [t]
 | _=> []
def CI.reads:CI→List Nat
 | .op _ g c=> c.ops.flatMap XZ++ (match g with | some (s,_)=> [s] | none=> [])
 | .frz _ _=> []
theorem Bx {S:Nat→Spc} {x:CI} {σ σ':Sg} {Hr H:ae} {K:D→ae→Prop} (h: ∀t∈x.reads,σ t=σ' t):H6 S x σ Hr H K↔H6 S x σ' Hr H K:=by
 cases x with
 | frz t n=> exact Iff.rfl
 | op dst g c=>
   have hev: ∀y∈c.ops,ev σ y=ev σ' y:=fun y hy=> by
    cases y with
    | tmp t=> exact h t (by simp only[CI.reads,List.mem_append,List.mem_flatMap];exact .inl ⟨_,hy,by simp[XZ]⟩)
    | _=> rfl
   have hp:=Ra (S:=S) (dst:=dst) (Hr:=Hr) (H:=H) (K:=K) hev
   cases g with
   | none=> exact hp
   | some sb=>
     obtain⟨s,b⟩:=sb
     simp only[H6]
     rw[←h s (by simp[CI.reads])]
     split
     ·rw[hp]
     ·exact Iff.rfl
     ·exact Iff.rfl
end Go.Gv
