/- A part of the framework and of the walks: T29 V20 W85. -/
import Derived.Test.YtaiffcbkmgfklaaGreatDoorGs22
import Derived.Test.YtaiffcbkmgfklaaGreatDoorGs31
import Derived.Test.YtaiffcbkmgfklaaGreatDoorGs32
set_option linter.unusedSimpArgs false
set_option linter.unusedVariables false
set_option linter.unusedSectionVars false
set_option maxRecDepth 100000

namespace Go.Gv
open Cod (enc dec)
def CI.noCv:CI→Bool
 | .op _ _ (.callv _ _)=> false
 | .op _ _ (.callb _ f _)=> f !=dW
 | _=> true
def CI.fn:CI→List Nat
 | .op _ _ (.call f _)=> [f]
 | .op _ _ (.callb _ f _)=> [f]
 | _=> []
def noCv:CC→Bool
 | .reg l=> l.all CI.noCv
 | .regd pre tl=> pre.all CI.noCv && tl.all CI.noCv
 | .seq a b=> noCv a && noCv b
 | .ite _ a b=> noCv a && noCv b
 | .block _ b=> noCv b
 | .loop _ b=> noCv b
 | .cut _ b=> noCv b
 | .keep _ _ b=> noCv b
 | _=> true
def Fv:List CI→List Nat
 | []=> []
 | x::l=> (if l.any fun y=> jJ x y then x.fn else[]) ++Fv l
def jF:CC→List Nat
 | .regd pre _=> Fv (pre.filter CI.real)
 | .seq a b=> jF a++jF b
 | .ite _ a b=> jF a++jF b
 | .block _ b=> jF b
 | .loop _ b=> jF b
 | .cut _ b=> jF b
 | .keep _ _ b=> jF b
 | _=> []
def XV (z:List PanicEntry→Prop) (P:Program) (S:Nat→Spc):Prop:= ∀f,(f=dW→yr z P (S f).pt)∧(f≠dW→TriZ z P f (S f).pt)
section
variable {z:List PanicEntry→Prop} {P:Program} {S:Nat→Spc}
theorem Vn (hS:XV z P S): ∀x:CI,x.noCv=true→eq P z S x
 | .frz _ _,_=> trivial
 | .op _ _ c,h=> by
   cases c <;> try exact trivial
   ·rename_i f args
    show CallOk P z S (.call f args)
    simp only[CallOk]
    split
    ·exact(hS dW).1 rfl
    ·rename_i e;exact(hS f).2 e
   ·cases h
   ·rename_i r f args
    have h: (f !=dW)=true:=h
    exact(hS f).2 (by simpa using h)
theorem Vm {x:CI} (h:x.noCv=true) (hq: ∀f∈x.fn,f≠dW∧Tri P f (S f).pt):eq P IU S x:=by
 cases x with
 | frz _ _=> trivial
 | op d g c=>
   cases c <;> try exact trivial
   ·rename_i f args
    obtain⟨h1,h2⟩:=hq f (by simp[CI.fn])
    show CallOk P IU S (.call f args)
    simp only[CallOk,if_neg h1]
    exact h2.z
   ·cases h
   ·rename_i r f args
    exact((hq f (by simp[CI.fn])).2).z
theorem II: ∀l:List CI,(∀x∈l,x.noCv=true)→(∀f∈Fv l,f≠dW∧Tri P f (S f).pt)→QuietL P S l
 | [],_,_=> trivial
 | x::l,h,hq=> by
   refine⟨?_,II l (fun y hy=> h y (by simp[hy])) fun f hf=> hq f (by simp[Fv,hf])⟩
   cases hb:l.any fun y=> jJ x y with
   | false=>
     left
     intro y hy
     have:=List.any_eq_false.1 hb y hy
     simpa using this
   | true=>
     right
     exact Vm (h x (by simp)) fun f hf=> hq f (by simp[Fv,hb,hf])
theorem pU (hS:XV z P S): ∀cc:CC,noCv cc=true→(∀f∈jF cc,f≠dW∧Tri P f (S f).pt)→BN P z S cc
 | .reg l,h,_=> fun x hx=> Vn hS x (List.all_eq_true.1 h x hx)
 | .regd pre tl,h,hq=> by
   simp only[noCv,Bool.and_eq_true] at h
   exact⟨fun x hx=> Vn hS x (List.all_eq_true.1 h.1 x hx),fun x hx=> Vn hS x (List.all_eq_true.1 h.2 x hx),II _ (fun x hx=> List.all_eq_true.1 h.1 x (List.mem_filter.1 hx).1) hq⟩
 | .seq a b,h,hq=> by
   simp only[noCv,Bool.and_eq_true] at h
   exact⟨pU hS a h.1 fun f hf=> hq f (by simp[jF,hf]),pU hS b h.2 fun f hf=> hq f (by simp[jF,hf])⟩
 | .ite _ a b,h,hq=> by
   simp only[noCv,Bool.and_eq_true] at h
   exact⟨pU hS a h.1 fun f hf=> hq f (by simp[jF,hf]),pU hS b h.2 fun f hf=> hq f (by simp[jF,hf])⟩
 | .block _ b,h,hq=> pU hS b h hq
 | .loop _ b,h,hq=> pU hS b h hq
 | .cut _ b,h,hq=> pU hS b h hq
 | .keep _ _ b,h,hq=> pU hS b h hq
 | .skip,_,_=> trivial
 | .exit _,_,_=> trivial
 | .ret,_,_=> trivial
theorem jN {l:List (Nat×Spc)} (h: ∀p∈l,(p.1=dW→yr z P p.2.pt)∧(p.1≠dW→TriZ z P p.1 p.2.pt)):XV z P (cj l):=by
 induction l with
 | nil=> exact fun f=> ⟨fun _=> fun _ _ _ _ _ _ _ _ _ _ _ _ _ h=> h.elim,fun _=> (mJ P f).z⟩
 | cons p l ih=>
   obtain⟨g,c⟩:=p
   intro f
   unfold cj
   split
   ·rename_i e
    subst e
    exact h (f,c) (by simp)
   ·exact ih (fun p hp=> h p (by simp[hp])) f
theorem gf: ∀p∈ ([]:List (Nat×Spc)),(p.1=dW→yr z P p.2.pt)∧(p.1≠dW→TriZ z P p.1 p.2.pt):=fun p h=> by cases h
theorem aB {f:Nat} {c:Spc} {l:List (Nat×Spc)} (h:TriZ z P f c.pt) (hf: (f==dW)=false) (hl: ∀p∈l,(p.1=dW→yr z P p.2.pt)∧(p.1≠dW→TriZ z P p.1 p.2.pt)):
 ∀p∈ (f,c)::l,(p.1=dW→yr z P p.2.pt)∧(p.1≠dW→TriZ z P p.1 p.2.pt):=fun p hp=> by
 rcases List.mem_cons.1 hp with rfl | hp
 ·exact⟨fun e=> absurd e (by simpa using hf),fun _=> h⟩
 ·exact hl p hp
theorem NY {c:Spc} {l:List (Nat×Spc)} (h:yr z P c.pt) (hl: ∀p∈l,(p.1=dW→yr z P p.2.pt)∧(p.1≠dW→TriZ z P p.1 p.2.pt)):
 ∀p∈ (dW,c)::l,(p.1=dW→yr z P p.2.pt)∧(p.1≠dW→TriZ z P p.1 p.2.pt):=fun p hp=> by
 rcases List.mem_cons.1 hp with rfl | hp
 ·exact⟨fun _=> h,fun e=> absurd rfl e⟩
 ·exact hl p hp
end
def sm (ty:Nat) (f:Int×Int):Value:= .iface ty (.agg #[.int .i64 f.1, .int .i64 f.2])
def zF (ty:Nat) (f:Int×Int):List PanicEntry→Prop:=fun c=> c= [{ v:=sm ty f,recovered:=false }]∧f.2≠0
def qba (ty:Nat) (f:Int×Int):PT:=fun _ ds _ _=> ds= [.v (sm ty f)]∧f.2≠0
theorem TE (ty:Nat) (f:Int×Int):uD (qba ty f):=fun _ _ _ _ _ _ h=> h
def Y6 (ty:Nat) (f:Int×Int):Spc:= .gen _ (TE ty f)
@[simp] theorem qc2 (ty:Nat) (f:Int×Int) (d:Nat) (a b:Int) (H:ae) (K:D→ae→Prop): (Y6 ty f).pt d [.v (.iface ty (.agg #[.int .i64 a, .int .i64 b]))] H K=((a,b)=f∧b≠0):=by
 refine propext ⟨fun h=> ?_,fun h=> ?_⟩
 ·obtain⟨h,hne⟩: [D.v (.iface ty (.agg #[.int .i64 a, .int .i64 b]))]= [.v (sm ty f)]∧f.2≠0:=h
  simp only[sm,List.cons.injEq,D.v.injEq,Value.iface.injEq,Value.agg.injEq,Array.mk.injEq,Value.int.injEq,and_true,true_and] at h
  exact⟨Prod.ext h.1 h.2,by rw[h.2];exact hne⟩
 ·obtain⟨h,hne⟩:=h
  subst h
  exact⟨rfl,hne⟩
theorem Kn {P:Program} (ty:Nat) (f:Int×Int):yr (zF ty f) P (Y6 ty f).pt:=by
 intro _ O tp w v e H d K _ _ _ hr h
 obtain⟨h,hne⟩: [e]= [.v (sm ty f)]∧f.2≠0:=h
 cases h
 have:=hr.inv_v
 exact⟨⟨_,_,this⟩,by rw[this],hne⟩
theorem Q3 {P:Program} {g ty:Nat} {A:PT} {a:Int} (h:TriZ (zF ty (a,0)) P g A):Tri P g A:=fun O tp w vs ds H d K h1 h2 h3 h4 h5 h6=>
 ⟨(h O tp w vs ds H d K h1 h2 h3 h4 h5 h6).1,(h O tp w vs ds H d K h1 h2 h3 h4 h5 h6).2.mono fun _ _ h=> h.elim id fun⟨_,_,h,_⟩=> absurd rfl h.2⟩
inductive Out (α:Type) where
 | ok (x:α)
 | err (f:Int×Int)
 | no
def Out.bind {α β:Type} :Out α→(α→Out β)→Out β
 | .ok x,f=> f x
 | .err e,_=> .err e
 | .no,_=> .no
def Out.map {α β:Type} (f:α→β):Out α→Out β
 | .ok x=> .ok (f x)
 | .err e=> .err e
 | .no=> .no
def Out.of {α:Type} :Option α→Out α
 | some x=> .ok x
 | none=> .no
@[simp] theorem Out.bind_ok {α β:Type} (x:α) (f:α→Out β): (Out.ok x).bind f=f x:=rfl
@[simp] theorem Out.bind_err {α β:Type} (e:Int×Int) (f:α→Out β): (Out.err e).bind f= .err e:=rfl
@[simp] theorem Out.bind_no {α β:Type} (f:α→Out β): (Out.no).bind f= .no:=rfl
@[simp] theorem Out.map_ok {α β:Type} (x:α) (f:α→β): (Out.ok x).map f= .ok (f x):=rfl
@[simp] theorem Out.map_err {α β:Type} (e:Int×Int) (f:α→β): (Out.err e).map f= .err e:=rfl
@[simp] theorem Out.map_no {α β:Type} (f:α→β): (Out.no).map f= .no:=rfl
@[simp] theorem Out.of_some {α:Type} (x:α):Out.of (some x)= .ok x:=rfl
@[simp] theorem Out.of_none {α:Type} :Out.of (none:Option α)= .no:=rfl
def Out.fine {α:Type} (f:Int×Int):Out α→Prop
 | .ok _=> True
 | .err e=> e=f
 | .no=> False
@[simp] theorem Out.fine_err {α:Type} (f e:Int×Int): (Out.err e:Out α).fine f=(e=f):=id rfl
theorem Out.fine_ofm {α β:Type} {f:Int×Int} {o:Option α} {k:α→β} (h: ((Out.of o).map k).fine f): ∃x,o=some x:=by
 cases o with
 | some x=> exact⟨x,rfl⟩
 | none=> exact h.elim
theorem Out.fine_bind {α β:Type} {f:Int×Int} {o:Out α} {k:α→Out β} (h: (o.bind k).fine f): (∃x,o= .ok x∧(k x).fine f)∨(o= .err f∧o.bind k= .err f):=by
 cases o with
 | ok x=> exact .inl ⟨x,rfl,h⟩
 | err e=> have h:e=f:=h;subst h;exact .inr ⟨rfl,rfl⟩
 | no=> exact h.elim
def Ae {α:Type} (f:Int×Int) (o:Out α) (K:α→Prop):Prop:=match o with
 | .ok x=> K x
 | .err e=> e=f
 | .no=> False
@[simp] theorem qc3 {α:Type} (f:Int×Int) (x:α) (K:α→Prop):Ae f (.ok x) K=K x:=id rfl
@[simp] theorem qbc {α:Type} (f e:Int×Int) (K:α→Prop):Ae f (.err e) K=(e=f):=id rfl
@[congr] theorem qc4 {α:Type} {f:Int×Int} {o o':Out α} {K:α→Prop} (h:o=o'):Ae f o K=Ae f o' K:=by subst h;rfl
@[simp] theorem qbb {α β:Type} (f:Int×Int) (o:Out α) (g:α→β) (K:β→Prop):Ae f (o.map g) K=Ae f o fun x=> K (g x):=by cases o <;> exact id rfl
@[simp] theorem qbe {α β:Type} (o:Option α) (g:α→β) (K:β→Prop):mW (o.map g) K=mW o fun x=> K (g x):=by cases o <;> exact id rfl
theorem WO {α:Type} {f:Int×Int} {o:Out α} {K:α→Prop} : (o.fine f∧ ∀x,o= .ok x→K x)=Ae f o K:=by
 cases o with
 | ok x=> exact propext ⟨fun h=> h.2 x rfl,fun h=> ⟨trivial,fun y e=> by cases e;exact h⟩⟩
 | err e=> exact propext ⟨fun h=> h.1,fun h=> ⟨h,fun y e=> by cases e⟩⟩
 | no=> exact propext ⟨fun h=> h.1,fun h=> ⟨h,fun y e=> by cases e⟩⟩
theorem Out.bind_map {α β γ:Type} (o:Out α) (k:α→Out β) (g:β→γ): (o.bind k).map g=o.bind fun x=> (k x).map g:=by cases o <;> rfl
theorem Out.bind_bind {α β γ:Type} (o:Out α) (k:α→Out β) (g:β→Out γ): (o.bind k).bind g=o.bind fun x=> (k x).bind g:=by cases o <;> rfl
theorem Out.map_bind {α β γ:Type} (o:Out α) (k:α→β) (g:β→Out γ): (o.map k).bind g=o.bind fun x=> g (k x):=by cases o <;> rfl
theorem Out.map_map {α β γ:Type} (o:Out α) (k:α→β) (g:β→γ): (o.map k).map g=o.map fun x=> g (k x):=by cases o <;> rfl
section
variable {α β:Type} {f:Int×Int} {F0:Out β} {K:α→Prop}
theorem lF {o:Out α} {k:α→Out β} (hf:F0.fine f) (e:F0=o.bind k) (h: ∀x,F0=k x→K x):Ae f o K:=by
 cases o with
 | ok x=> exact h x e
 | err g=> subst e;exact hf
 | no=> subst e;exact hf
theorem Fx {o:Out α} {k:α→β} (hf:F0.fine f) (e:F0=o.map k) (h: ∀x,F0= .ok (k x)→K x):Ae f o K:=by
 cases o with
 | ok x=> exact h x e
 | err g=> subst e;exact hf
 | no=> subst e;exact hf
theorem By {o:Out β} {K:β→Prop} (hf:F0.fine f) (e:F0=o) (h: ∀x,F0= .ok x→K x):Ae f o K:=by
 cases o with
 | ok x=> exact h x e
 | err g=> subst e;exact hf
 | no=> subst e;exact hf
theorem oO {o:Option α} {k:α→Out β} (hf:F0.fine f) (e:F0=(Out.of o).bind k) (h: ∀x,F0=k x→K x):mW o K:=by
 cases o with
 | some x=> exact h x e
 | none=> subst e;exact hf
theorem Fy {o:Option α} {k:α→β} (hf:F0.fine f) (e:F0=(Out.of o).map k) (h: ∀x,F0= .ok (k x)→K x):mW o K:=by
 cases o with
 | some x=> exact h x e
 | none=> subst e;exact hf
end
section
variable {X Y Z:Type} {P:Program} {S:Nat→Spc} {f:Nat} {im:List Nat} {cc:CC} {rs:List aK} {N:Nat}
theorem LM {z:List PanicEntry→Prop} {B:vi X} {A:lB Z} {er:Y→D} {pre:X→Z→Prop} {post:X→Z→X→Y→Prop} (h1i:0∉B.ids) (hS:BN P z S cc) (h:aS P f im cc rs N) (hN: ∀z,(A.view z).length+1≤N) (hw:VD cc rs S B A er pre post):TriZ z P f (qd9 B A er pre post).pt:=by
 obtain⟨Ea,enter,fn,code,h1,h2,h3,h4,h5⟩:=h
 refine EM hS Ea h1 h2 enter h3 h4 h5 ?_
 rintro ds H d K ⟨id,b,x,z,ds',rfl,hd,hid,hhp,hni,hp,hK⟩
 have hl:=A.le ds' z hd
 have h0: ∀i r,aq (ig (B.hp x) cZ) 0 (some (.box b (B.ce x))) i=some r→i=0∧r= .box b (B.ce x)∨i≠0∧(i,r) ∈B.hp x:=by
  intro i r h
  by_cases e:i=0
  ·subst e
   simp only[aq,if_true] at h
   cases h
   exact .inl ⟨rfl,rfl⟩
  ·simp only[aq,e,if_false] at h
   exact .inr ⟨e,AO h⟩
 have hk: ∀ {x:X} {i:Nat} {r:Res},(i,r) ∈B.hp x→i∈B.ids:=by
  intro x i r h
  rw[←B.keys x]
  exact List.mem_map.2 ⟨_,h,rfl⟩
 refine⟨by simp only[List.length_cons];rw[hl.1];exact hN z, .bptr 0 b 0::A.view z,aq (ig (B.hp x) cZ) 0 (some (.box b (B.ce x))),fun i=> if i=0 then id else i, .cons (.bptr _ _ _ _) hl,fun i r h=> ?_,fun i j r s h h' e=> ?_,_,hw b x z hp,?_⟩
 ·rcases h0 i r h with⟨rfl,rfl⟩ | ⟨e,hm⟩
  ·exact hid
  ·simp only[e,if_false]
   exact hhp _ hm
 ·rcases h0 i r h with⟨rfl,rfl⟩ | ⟨e1,hm⟩
  ·rcases h0 j s h' with⟨rfl,rfl⟩ | ⟨e2,hm2⟩
   ·rfl
   ·simp only[e2,if_true,if_false] at e
    subst e
    exact absurd (hk hm2) hni
  ·rcases h0 j s h' with⟨rfl,rfl⟩ | ⟨e2,hm2⟩
   ·simp only[e1,if_true,if_false] at e
    subst e
    exact absurd (hk hm) hni
   ·simpa only[e1,e2,if_false] using e
 ·rintro r H' ⟨x',y,hfr,hj,hhp',hpost⟩
  refine⟨er y,fun i=> if i=0∨i∈B.ids then none else H' i,aq (ig (B.hp x') H) id (some (.box b (B.ce x'))),fun i=> if i=id then some 0 else if i∈B.ids then some i else none,hfr,fun j q h=> ?_,hK x' y hpost,fun i s hi=> ?_,fun i j' k s q hi hj' e1 e2=> ?_⟩
  ·by_cases e:j=0∨j∈B.ids
   ·simp[e] at h
   ·simp only[e,if_false] at h
    refine⟨h,fun i hh=> e ?_⟩
    by_cases e1:i=id
    ·simp only[e1,if_true] at hh
     cases hh
     exact .inl rfl
    ·simp only[e1,if_false] at hh
     by_cases e2:i∈B.ids
     ·simp only[e2,if_true] at hh
      cases hh
      exact .inr e2
     ·simp[e2] at hh
  ·by_cases e:i=id
   ·subst e
    simp only[aq,if_true] at hi
    cases hi
    simpa using hj
   ·simp only[aq,e,if_false] at hi ⊢
    by_cases e2:i∈B.ids
    ·simp only[e2,if_true]
     exact hhp' _ (AP (by rw[B.keys];exact e2) hi)
    ·simp only[e2,if_false]
     rw[AN (by rw[B.keys];exact e2)] at hi
     refine⟨hi,fun k q h he=> ?_⟩
     rcases h0 k q h with⟨rfl,rfl⟩ | ⟨e3,hm⟩
     ·simp only[if_true] at he
      exact e he.symm
     ·simp only[e3,if_false] at he
      subst he
      exact e2 (hk hm)
  ·by_cases c1:i=id
   ·by_cases c2:j'=id
    ·exact c1.trans c2.symm
    ·simp only[c1,if_true] at e1
     cases e1
     simp only[c2,if_false] at e2
     by_cases c3:j'∈B.ids
     ·simp only[c3,if_true] at e2
      cases e2
      exact absurd c3 h1i
     ·simp[c3] at e2
   ·simp only[c1,if_false] at e1
    by_cases c3:i∈B.ids
    ·simp only[c3,if_true] at e1
     cases e1
     by_cases c2:j'=id
     ·simp only[c2,if_true] at e2
      cases e2
      exact absurd c3 h1i
     ·simp only[c2,if_false] at e2
      by_cases c4:j'∈B.ids
      ·simp only[c4,if_true] at e2
       cases e2
       rfl
      ·simp[c4] at e2
    ·simp[c3] at e1
end
section
variable {Y Z:Type}
def z7 (A:lB Z) (er:Y→D) (f:Int×Int) (F:Rdr→Z→Out (Rdr×Y)):Spc:=qcQ A er (fun s z=> (F s z).fine f) (fun s z s' y=> F s z= .ok (s',y))
def Q9 (er:Y→D) (f:Int×Int) (F:Rdr→Z→Out (Rdr×Y)) (id b:Nat) (r:Option Res) (o:Option Z) (H:ae) (K:D→ae→Prop):Prop:=
 ∃x,r=some (.box b (dw x))∧mW o fun z=> Ae f (F x z) fun q=> K (er q.2) (aq H id (some (.box b (dw q.1))))
@[congr] theorem qcO {er:Y→D} {f:Int×Int} {F:Rdr→Z→Out (Rdr×Y)} {id b:Nat} {r r':Option Res} {o o':Option Z} {H:ae} {K:D→ae→Prop} (h1:r=r') (h2:o=o'):Q9 er f F id b r o H K=Q9 er f F id b r' o' H K:=by subst h1;subst h2;rfl
@[simp] theorem Tn (A:lB Z) (er:Y→D) (f:Int×Int) (F:Rdr→Z→Out (Rdr×Y)) (d i b:Nat) (ds:List D) (H:ae) (K:D→ae→Prop): (z7 A er f F).pt d (.bptr i b 0::ds) H K=Q9 er f F i b (H i) (A.dec ds) H K:=by
 unfold z7 Q9
 rw[Tp]
 unfold qeK
 refine propext (exists_congr fun x=> and_congr_right fun _=> ?_)
 cases A.dec ds with
 | none=> exact Iff.rfl
 | some z=>
   show((F x z).fine f∧ ∀x' y,F x z= .ok (x',y)→_) ↔Ae f (F x z) _
   rw[←WO]
   exact and_congr_right fun _=> ⟨fun h q e=> h q.1 q.2 e,fun h x' y e=> h (x',y) e⟩
@[simp] theorem qeJ (er:Y→D) (f:Int×Int) (F:Rdr→Z→Out (Rdr×Y)) (id b:Nat) (l:B) (p dp:Int) (e:B) (g:Int) (o:Option Z) (H:ae) (K:D→ae→Prop):
 Q9 er f F id b (some (.box b [.v (.string l), .v (.int .i64 p), .v (.int .i64 dp), .v (.string e), .v (.int .i64 g)])) o H K=mW o fun z=> Ae f (F ⟨l,p,dp,e,g⟩ z) fun q=> K (er q.2) (aq H id (some (.box b (dw q.1)))):=by
 refine propext ⟨fun⟨x,h1,h2⟩=> ?_,fun h=> ⟨⟨l,p,dp,e,g⟩,rfl,h⟩⟩
 have e1:dw ⟨l,p,dp,e,g⟩=dw x:=by
  have:=Option.some.inj h1
  exact(Res.box.inj this).2
 have:=Co e1
 subst this
 exact h2
theorem Xh {X:Type} {ce:X→List D} (hce: ∀x y,ce x=ce y→x=y) {A:lB Z} {er:Y→D} {pre:X→Z→Prop} {post:X→Z→X→Y→Prop} {id b:Nat} {ds:List D} :Z5 id (qd9 (Iy ce) A er pre post).pt (.bptr id b 0::ds):=by
 refine⟨fun r=> ∃x z,A.dec ds=some z∧r=some (.box b (ce x))∧pre x z,fun r d u=> ∃x z x' y,A.dec ds=some z∧r=some (.box b (ce x))∧post x z x' y∧d=er y∧u= .box b (ce x'),fun t H K=> ⟨?_,?_⟩⟩
 ·rintro⟨id',b',x,z,ds',h1,h2,h3,h4,h5,h6,h7⟩
  cases h1
  refine⟨⟨x,z,h2,h3,h6⟩,fun d u ⟨x2,z2,x',y,e1,e2,e3,e4,e5⟩=> ?_⟩
  rw[h2] at e1
  cases e1
  have h3:H id=some (.box b (ce x)):=h3
  rw[h3] at e2
  have:=hce _ _ (Res.box.inj (Option.some.inj e2)).2
  subst this
  subst e4;subst e5
  exact h7 _ _ e3
 ·rintro⟨⟨x,z,h2,h3,h6⟩,h7⟩
  exact⟨id,b,x,z,ds,rfl,h2,h3,fun p hp=> by simp[Iy] at hp,by simp[Iy],h6,fun x' y hp=> h7 _ _ ⟨x,z,x',y,h2,h3,hp,rfl,rfl⟩⟩
@[simp] theorem qa7 (A:lB Z) (er:Y→D) (f:Int×Int) (F:Rdr→Z→Out (Rdr×Y)) (i b:Nat) (dst:Option Nat) (ds:List D) (H:ae) (K:D→ae→Prop):IJ i dst (z7 A er f F) (.bptr i b 0::ds) H K=Q9 er f F i b (H i) (A.dec ds) H K:=by
 rw[←Tn A er f F (dst.getD 0)]
 exact propext ⟨fun h=> h.2,fun h=> ⟨Xh fun _ _ e=> Co e,h⟩⟩
abbrev fV (cc:CC) (rs:List aK) (S:Nat→Spc) (A:lB Z) (er:Y→D) (f:Int×Int) (F:Rdr→Z→Out (Rdr×Y)):Prop:=sA cc rs S A er (fun s z=> (F s z).fine f) (fun s z s' y=> F s z= .ok (s',y))
variable {P:Program} {S:Nat→Spc} {g:Nat} {im:List Nat} {cc:CC} {rs:List aK} {N:Nat}
theorem bU {ty:Nat} {A:lB Z} {er:Y→D} {f:Int×Int} {F:Rdr→Z→Out (Rdr×Y)} (hS:XV (zF ty f) P S) (h:aS P g im cc rs N) (hN: ∀z,(A.view z).length+1≤N) (hcv:noCv cc=true) (hq: ∀f∈jF cc,f≠dW∧Tri P f (S f).pt)
 (hw:fV cc rs S A er f F):TriZ (zF ty f) P g (z7 A er f F).pt:=LM (by simp[X1,Iy]) (pU hS cc hcv hq) h hN fun b x z hp=> hw b x z hp
end
end Go.Gv

namespace Go.Gv
def dx (s:Rdr) (t:B):Out (Rdr×Bool):= .of (uH s t)
def ir (s:Rdr):Out Rdr:= .of (wm s)
def eR:Rdr→List B→Out Rdr
 | s, []=> .ok s
 | s,t::l=> if ox s t then(ir s).bind fun x=> eR x l else .err (s.pos,3)
def fX (s:Rdr) (k:Int):Out (Rdr×B):=if s.kind=k then(ir s).map fun x=> (x,s.text) else .err (s.pos,3)
def zm (s:Rdr):Out (Rdr×B):=(eR s [⟨#[44]⟩]).bind fun x=> fX x 2
def KA (most:Int):List UInt8→Int→Int
 | [],n=> n
 | c::l,n=> if n≤most then KA most l (10*n+ ((c.toNat:Int) -48)) else n
def QA (c:U8):Bool:=decide (c.val=48)
def nn (t:B):B:=t.extract (jK QA t 0) t.size
def DI (most:Int) (t:B):Int:=KA most (nn t).data.toList 0
def numberE (s:Rdr) (most a:Int):Out (Rdr×Int):=(fX s 3).bind fun r=>
 if yo r.2=true∧most≤1000000 then(if most < DI most r.2 then .err (a,8) else .ok (r.1,DI most r.2)) else .no
def bigE (s:Rdr):Out (Rdr×Int):=numberE s 100000 s.pos
def signedE (s:Rdr):Out (Rdr×Int):=(dx s ⟨#[45]⟩).bind fun w=> if w.2 then(bigE w.1).map fun n=> (n.1, -n.2) else bigE w.1
section
variable (N:Rdr→Out (Rdr×Cond)) (O:Rdr→Out (Rdr×Cond))
def lO:Nat→Rdr→List Cond→Out (Rdr×List Cond)
 | 0,_,_=> .no
 | k+1,s,acc=> (dx s ⟨#[38]⟩).bind fun w=> if w.2 then(N w.1).bind fun r=> lO k r.1 (acc++ [r.2]) else .ok (w.1,acc)
def andE (s:Rdr):Out (Rdr×Cond):=(N s).bind fun r=> (lO N 500 r.1 [r.2]).map fun q=> (q.1,Vp 7 q.2)
def oh:Nat→Rdr→List Cond→Out (Rdr×List Cond)
 | 0,_,_=> .no
 | k+1,s,acc=> (dx s ⟨#[124]⟩).bind fun w=> if w.2 then(andE N w.1).bind fun r=> oh k r.1 (acc++ [r.2]) else .ok (w.1,acc)
def orE (s:Rdr):Out (Rdr×Cond):=(andE N s).bind fun r=> (oh N 500 r.1 [r.2]).map fun q=> (q.1,Vp 8 q.2)
def yB (s:Rdr) (name:B):Out (Rdr×Cond):=(fX s 4).bind fun v=> (dx v.1 ⟨#[37,99]⟩).map fun w=> (w.1,⟨2,name,E0,v.2,E0,w.2, []⟩)
def D5 (s:Rdr):Out (Rdr×Cond):=(fX s 2).bind fun n=> (dx n.1 ⟨#[44]⟩).bind fun c=>
 if c.2 then(fX c.1 2).bind fun a=> (eR a.1 [⟨#[61]⟩]).bind fun u=> (fX u 4).bind fun v=> (eR v.1 [⟨#[41]⟩]).map fun z=> (z,⟨5,n.2,a.2,v.2,E0,false, []⟩)
 else(eR c.1 [⟨#[41]⟩]).map fun z=> (z,⟨5,n.2,E0,E0,E0,false, []⟩)
def Jk (s:Rdr) (name:B):Out (Rdr×Cond):=
 if rB s [⟨#[99,111,110,116,97,105,110,115]⟩] then(ir s).bind fun x=> (fX x 4).map fun v=> (v.1,⟨3,name,E0,v.2,E0,false, []⟩) else
 (dx s ⟨#[33,61]⟩).bind fun w=> if w.2 then(yB w.1 name).map fun v=> (v.1,⟨6,E0,E0,E0,E0,false, [v.2]⟩) else
 (eR w.1 [⟨#[61]⟩]).bind fun u=> if u.kind=2 then(fX u 2).bind fun l=> (eR l.1 [⟨#[46]⟩]).bind fun d=> (fX d 2).map fun a=> (a.1,⟨4,name,a.2,E0,l.2,false, []⟩)
 else yB u name
def atomsE (s:Rdr):Out (Rdr×Cond):=(fX s 2).bind fun n=> if n.2=⟨#[105,110]⟩ then(dx n.1 ⟨#[40]⟩).bind fun v=> if v.2 then D5 v.1 else Jk v.1 n.2 else Jk n.1 n.2
def notE (s:Rdr):Out (Rdr×Cond):=(dx s ⟨#[33]⟩).bind fun w=> if w.2 then(N w.1).map fun r=> (r.1,⟨6,E0,E0,E0,E0,false, [r.2]⟩) else
 (dx w.1 ⟨#[40]⟩).bind fun u=> if u.2 then(O u.1).bind fun x=> (eR x.1 [⟨#[41]⟩]).map fun z=> (z,x.2) else atomsE u.1
end
def dm:Nat→Rdr→Out (Rdr×Cond)
 | 0=> fun _=> .no
 | n+1=> notE (dm n) (orE (dm n))
section
variable (A:Rdr→Bool→Out (Rdr×Pat)) (O:Rdr→Out (Rdr×Cond))
def tokenE (s:Rdr) (label:B):Out (Rdr×Pat):=(dx s ⟨#[91]⟩).bind fun u=> if u.2 then
 (if ox u.1 ⟨#[93]⟩ then(eR u.1 [⟨#[93]⟩]).map fun z=> (z,⟨1,⟨1,E0,E0,E0,E0,false, []⟩,label,E0,0,0, []⟩)
 else(O u.1).bind fun x=> (eR x.1 [⟨#[93]⟩]).map fun z=> (z,⟨1,x.2,label,E0,0,0, []⟩))
 else(yB u.1 E0).map fun v=> (v.1,⟨1,v.2,label,E0,0,0, []⟩)
def AL (s:Rdr) (op:Int):Out (Rdr×Pat):=(fX s 2).bind fun n=> (eR n.1 [⟨#[62]⟩]).map fun z=> (z,⟨op,Cond0,E0,n.2,0,0, []⟩)
def itemE (s:Rdr):Out (Rdr×Pat):=
 (dx s ⟨#[60]⟩).bind fun b=> if b.2 then AL b.1 2 else(dx b.1 ⟨#[60,47]⟩).bind fun c=> if c.2 then AL c.1 3 else
 (dx c.1 ⟨#[40]⟩).bind fun d=> if d.2 then(A d.1 true).bind fun q=> (eR q.1 [⟨#[41]⟩]).map fun w=> (w,q.2) else
 if d.1.kind=2 then(fX d.1 2).bind fun n=> (eR n.1 [⟨#[58]⟩]).bind fun u=> tokenE O u n.2 else tokenE O d.1 E0
def Cr (s:Rdr) (a:Int):Out (Rdr×Option (Int×Int)):=(numberE s 16 a).bind fun lo=> (dx lo.1 ⟨#[44]⟩).bind fun c=>
 if c.2 then(if ox c.1 ⟨#[125]⟩ then(eR c.1 [⟨#[125]⟩]).map fun z=> (z,some (lo.2, -1))
  else(numberE c.1 16 a).bind fun hi=> if hi.2 < lo.2 then .err (a,8) else(eR hi.1 [⟨#[125]⟩]).map fun z=> (z,some (lo.2,hi.2)))
 else(eR c.1 [⟨#[125]⟩]).map fun z=> (z,some (lo.2,lo.2))
def Dt (s:Rdr):Out (Rdr×Option (Int×Int)):=(dx s ⟨#[63]⟩).bind fun w=> if w.2 then .ok (w.1,some (0,1)) else
 (dx w.1 ⟨#[42]⟩).bind fun w=> if w.2 then .ok (w.1,some (0, -1)) else
 (dx w.1 ⟨#[43]⟩).bind fun w=> if w.2 then .ok (w.1,some (1, -1)) else
 (dx w.1 ⟨#[123]⟩).bind fun w=> if w.2 then Cr w.1 s.pos else .ok (w.1,none)
def oL:Nat→Rdr→Pat→Out (Rdr×Pat)
 | 0,_,_=> .no
 | k+1,s,x=> (Dt s).bind fun r=> match r.2 with
   | none=> .ok (r.1,x)
   | some m=> oL k r.1 ⟨6,Cond0,E0,E0,m.1,m.2, [x]⟩
def repE (s:Rdr):Out (Rdr×Pat):=(itemE A O s).bind fun r=> oL 500 r.1 r.2
def lC (i:Bool):Nat→Rdr→List Pat→Out (Rdr×List Pat)
 | 0,_,_=> .no
 | k+1,s,acc=> (Out.of (jI s i)).bind fun b=> if b then(repE A O s).bind fun r=> lC i k r.1 (acc++ [r.2]) else .ok (s,acc)
def seqE (s:Rdr) (i:Bool):Out (Rdr×Pat):=(repE A O s).bind fun r=> (lC A O i 500 r.1 [r.2]).map fun q=> (q.1,vT 4 q.2)
def lP (i:Bool):Nat→Rdr→List Pat→Out (Rdr×List Pat)
 | 0,_,_=> .no
 | k+1,s,acc=> (dx s ⟨#[124]⟩).bind fun w=> if w.2 then(seqE A O w.1 i).bind fun r=> lP i k r.1 (acc++ [r.2]) else .ok (w.1,acc)
def altE (s:Rdr) (i:Bool):Out (Rdr×Pat):=(seqE A O s i).bind fun r=> (lP A O i 500 r.1 [r.2]).map fun q=> (q.1,vT 5 q.2)
end
def iy:Nat→Rdr→Bool→Out (Rdr×Pat)
 | 0=> fun _ _=> .no
 | n+1=> altE (iy n) (orE (dm (n+1)))
section
variable (N:Rdr→Out (Rdr×Glob)) (O:Rdr→Out (Rdr×Glob))
def jo:Nat→Rdr→List Glob→Out (Rdr×List Glob)
 | 0,_,_=> .no
 | k+1,s,acc=> (dx s ⟨#[38]⟩).bind fun w=> if w.2 then(N w.1).bind fun r=> jo k r.1 (acc++ [r.2]) else .ok (w.1,acc)
def gandE (s:Rdr):Out (Rdr×Glob):=(N s).bind fun r=> (jo N 500 r.1 [r.2]).map fun q=> (q.1,UO 12 q.2)
def lG:Nat→Rdr→List Glob→Out (Rdr×List Glob)
 | 0,_,_=> .no
 | k+1,s,acc=> (dx s ⟨#[124]⟩).bind fun w=> if w.2 then(gandE N w.1).bind fun r=> lG k r.1 (acc++ [r.2]) else .ok (w.1,acc)
def gorE (s:Rdr):Out (Rdr×Glob):=(gandE N s).bind fun r=> (lG N 500 r.1 [r.2]).map fun q=> (q.1,UO 13 q.2)
def mr:Nat→Rdr→List B→Out (Rdr×List B)
 | 0,_,_=> .no
 | k+1,s,acc=> (dx s ⟨#[44]⟩).bind fun w=> if w.2 then(fX w.1 4).bind fun r=> mr k r.1 (acc++ [r.2]) else .ok (w.1,acc)
def argsE (s:Rdr) (op:Int) (a:B):Out (Rdr×Glob):=
 if op=1 then .ok (s,⟨op,a,E0,E0,E0,E0,false,0,0, [], []⟩)
 else if op=10 then(eR s [⟨#[44]⟩]).bind fun u=> (bigE u).bind fun lo=> (eR lo.1 [⟨#[44]⟩]).bind fun v=> (bigE v).map fun hi=> (hi.1,⟨op,a,E0,E0,E0,E0,false,lo.2,hi.2, [], []⟩)
 else(zm s).bind fun b=>
  if op=4 then(eR b.1 [⟨#[44]⟩]).bind fun u=> (signedE u).bind fun lo=> (eR lo.1 [⟨#[44]⟩]).bind fun v=> (signedE v).map fun hi=> (hi.1,⟨op,a,b.2,E0,E0,E0,false,lo.2,hi.2, [], []⟩)
  else if op=5∨op=9 then(zm b.1).map fun n=> (n.1,⟨op,a,b.2,n.2,E0,E0,false,0,0, [], []⟩)
  else if op=8 then(mr 500 b.1 []).map fun l=> (l.1,⟨op,a,b.2,E0,E0,E0,false,0,0,l.2, []⟩)
  else .ok (b.1,⟨op,a,b.2,E0,E0,E0,false,0,0, [], []⟩)
def GE (s:Rdr) (name:B):Out (Rdr×Glob):=(eR s [⟨#[46]⟩]).bind fun d=> (fX d 2).bind fun n=> (eR n.1 [⟨#[61]⟩]).bind fun u=>
 if u.kind=2 then(fX u 2).bind fun b=> (eR b.1 [⟨#[46]⟩]).bind fun v=> (fX v 2).map fun g=> (g.1,⟨3,name,b.2,n.2,g.2,E0,false,0,0, [], []⟩)
 else(fX u 4).bind fun v=> (dx v.1 ⟨#[37,99]⟩).map fun f=> (f.1,⟨2,name,E0,n.2,E0,v.2,f.2,0,0, [], []⟩)
def gatomsE (s:Rdr):Out (Rdr×Glob):=(fX s 2).bind fun n=> if 0 < l9 n.2 then(dx n.1 ⟨#[40]⟩).bind fun v=>
 if v.2 then(fX v.1 2).bind fun a=> (argsE a.1 (l9 n.2) a.2).bind fun g=> (eR g.1 [⟨#[41]⟩]).map fun z=> (z,g.2) else GE v.1 n.2
 else GE n.1 n.2
def gnotE (s:Rdr):Out (Rdr×Glob):=(dx s ⟨#[33]⟩).bind fun w=> if w.2 then(N w.1).map fun r=> (r.1,⟨11,E0,E0,E0,E0,E0,false,0,0, [], [r.2]⟩) else
 (dx w.1 ⟨#[40]⟩).bind fun u=> if u.2 then(O u.1).bind fun x=> (eR x.1 [⟨#[41]⟩]).map fun z=> (z,x.2) else gatomsE u.1
end
def fa:Nat→Rdr→Out (Rdr×Glob)
 | 0=> fun _=> .no
 | n+1=> gnotE (fa n) (gorE (fa n))
def B6 (l:List B) (w:B):Int:=wP l fun z=> decide (w=z)
def MU (s:Rdr):Out (Rdr×Filt):=(dx s ⟨#[33]⟩).bind fun w=>
 if w.1.kind≠2∨B6 filterL w.1.text < 1 then .err (w.1.pos,3) else(ir w.1).bind fun x=> (fX x 2).map fun n=> (n.1,⟨B6 filterL w.1.text,w.2,n.2⟩)
def eu:Nat→Rdr→List Filt→Out (Rdr×List Filt)
 | 0,_,_=> .no
 | k+1,s,acc=> if ox s ⟨#[33]⟩ || rB s filterL then(MU s).bind fun f=> eu k f.1 (acc++ [f.2]) else .ok (s,acc)
def strategyW:B:=⟨#[115,116,114,97,116,101,103,121]⟩
def ti (s:Rdr):Out (Rdr×Int):=if rB s [strategyW] then(ir s).bind fun x=> if rB x strategyL then(fX x 2).map fun n=> (n.1,B6 strategyL n.2) else .err (x.pos,3) else .ok (s,0)
def queryE (n:Nat) (s:Rdr):Out (Rdr×Qry):=(ir s).bind fun s=> (iy n s false).bind fun p=> (dx p.1 ⟨#[58,58]⟩).bind fun c=>
 (if c.2 then gorE (fa n) c.1 else .ok (c.1,GlobE)).bind fun g=> (eu 500 g.1 []).bind fun f=> (ti f.1).bind fun z=>
 if z.1.kind=0 then .ok (z.1,⟨p.2,g.2,f.2,z.2⟩) else .err (z.1.pos,3)
end Go.Gv

namespace Go.Gv
open Cod (enc dec)
variable {S S0:Nat→Spc} {f:Int×Int}
abbrev s_trimLeftByte:Spc:=cY (a2 B U8) (fun x=> x.2.val=48) (enc (X:=B)) fun x y=> y=nn x.1
theorem tc:Walk iw ip S (a2 B U8) (fun x=> x.2.val=48) (enc (X:=B)) fun x y=> y=nn x.1:=by
 rintro⟨s,⟨c⟩⟩ hc
 simp only at hc
 subst hc
 simp[iw,ip]
 refine jL (X:=Nat) [1] [] (fun k=> k≤s.size∧jK QA s k=jK QA s 0) (fun k=> [(0,enc (s.extract k s.size))]) (fun _=> []) (fun k=> s.size -k) 0 ⟨by omega,rfl⟩ (by simp) (by simp) ?_
 rintro k ⟨hk,hq⟩
 simp
 refine fun _=> ⟨fun hlt=> ⟨hlt,fun c hc=> ?_⟩,fun hge=> ?_⟩
 ·have hc:s.data[k]?=some c:=by
   rw[Array.getElem?_extract] at hc
   split at hc
   ·simpa using hc
   ·cases hc
  refine⟨fun h48=> ⟨by omega,k+1,⟨by omega,?_⟩,?_,by omega⟩,fun h48=> ?_⟩
  ·rw[←hq,sO hc,if_pos (by simp[QA,h48])]
  ·rw[ByteArray.extract_extract]
   congr 1 <;> omega
  ·have:jK QA s k=k:=by rw[sO hc,if_neg (by simp[QA];exact h48)]
   rw[nn,←hq,this]
 ·rw[nn,←hq,Fm (by omega)]
abbrev s_trimLeft:Spc:=cY (a2 B B) (fun x=> x.2=⟨#[48]⟩) (enc (X:=B)) fun x y=> y=nn x.1
theorem yw (h1:S eg=s_trimLeftByte):Walk ll kZ S (a2 B B) (fun x=> x.2=⟨#[48]⟩) (enc (X:=B)) fun x y=> y=nn x.1:=by
 rintro⟨s,t⟩ ht
 simp only at ht
 subst ht
 have e1: (⟨#[48]⟩:B).size=1:=rfl
 simp[ll,kZ,h1,e1]
 refine fun h=> ?_
 subst h
 rfl
abbrev Bd (f:Int×Int):Spc:=Y6 ax f
abbrev Nz (s:Rdr) (_:Unit):Out (Rdr×Unit):= .err (s.pos,3)
abbrev qk (f:Int×Int):Spc:=z7 a0 Zu f Nz
theorem QT (hp:S dW=Bd f):fV jA ju S a0 Zu f Nz:=by
 rintro b s ⟨⟩ h
 have h: ((s.pos,3):Int×Int)=f:=h
 simp[jA,ju,hp]
 exact h
@[simp] abbrev Lj (s:Rdr) (l:List B):Out (Rdr×Unit):=(eR s l).map fun x=> (x,())
abbrev fN (f:Int×Int):Spc:=z7 (a1 (List B)) Zu f Lj
theorem SD (h1:S af=cb) (h2:S bk=qk f):fV kA jX S (a1 (List B)) Zu f Lj:=by
 rintro b s l hr
 simp[kA,jX]
 intro _
 refine aw (X:=Rdr) [0,6] [] l.length (fun k x=> eR s l=eR x (l.drop k)) (fun _=> []) (fun x=> [(0, .box b (dw x))]) s (by simp) (by simp) (by omega) (by simp) (by simp) (by simp) (by simp) (by simp) ?_ ?_
 ·rintro k x hk hP
  obtain⟨t,ht⟩:=cz hk
  obtain⟨_,hgt⟩:=List.getElem?_eq_some_iff.1 ht
  rw[List.drop_eq_getElem_cons hk,hgt,eR] at hP
  have hr0:=hr
  rw[Lj,hP] at hr
  by_cases hsg:ox x t
  ·rw[if_pos hsg] at hr hP
   have hr': (((ir x).bind fun x=> eR x (List.drop (k+1) l)).map fun x=> (x,())).fine f:=hr
   cases hn:wm x with
   | none=> rw[ir,hn] at hr';exact hr'.elim
   | some x1=>
     rw[ir,hn] at hP
     have htk:uH x t=some (x1,true):=by simp[uH,hsg,hn]
     simp[h1,h2,hk,ht,hgt,htk]
     exact⟨x1,hP, .inl ⟨rfl,rfl,rfl,rfl,rfl⟩⟩
  ·rw[if_neg hsg] at hr hP
   have htk:uH x t=some (x,false):=by simp[uH,hsg]
   simp[h1,h2,hk,ht,hgt,htk]
   exact hr
 ·rintro x hP
  have hP:eR s l= .ok x:=by simpa [eR] using hP
  simp
  exact iC x () (.same _) (by simp) (by show(eR s l).map _=_;rw[hP];rfl)
@[simp] abbrev Ek (s:Rdr) (k:Int):Out (Rdr×B):=fX s k
abbrev kK (f:Int×Int):Spc:=z7 (a1 Int) (enc (X:=B)) f Ek
theorem SB (h1:S a8=pS) (h2:S bk=qk f):fV gX gK S (a1 Int) (enc (X:=B)) f Ek:=by
 rintro b s k hr
 by_cases hk:s.kind=k
 ·subst hk
  simp only[Ek,fX,if_true,ir] at hr
  obtain⟨x,hx⟩:=Out.fine_ofm hr
  simp[gX,gK,h1,hx]
  exact UV x (by simp) (by simp[fX,ir,hx])
 ·have hr: ((s.pos,3):Int×Int)=f:=by simpa only[Ek,fX,if_neg hk,Out.fine_err] using hr
  simp[gX,gK,h1,h2,hk]
  exact hr
@[simp] abbrev Li (s:Rdr) (_:Unit):Out (Rdr×B):=fX s 2
abbrev mP (f:Int×Int):Spc:=z7 a0 (enc (X:=B)) f Li
theorem SC (h1:S aF=kK f):fV gZ gM S a0 (enc (X:=B)) f Li:=by
 rintro b s ⟨⟩ hr
 simp only[Li] at hr
 cases h:fX s 2 with
 | no=> rw[h] at hr;exact hr.elim
 | err e=>
   rw[h] at hr
   simp[gZ,gM,h1,h]
   exact hr
 | ok q=>
   simp[gZ,gM,h1,h]
   exact UV q.1 (by simp) rfl
@[simp] abbrev Hk (s:Rdr) (_:Unit):Out (Rdr×B):=zm s
abbrev E8 (f:Int×Int):Spc:=z7 a0 (enc (X:=B)) f Hk
theorem QX (h1:S ai=fN f) (h2:S av=mP f):fV eF eD S a0 (enc (X:=B)) f Hk:=by
 rintro b s ⟨⟩ hr
 have hr0:=hr
 simp only[Hk,zm] at hr
 rcases Out.fine_bind hr with⟨x,hx,hr⟩ | ⟨hx, -⟩
 ·rcases hq:fX x 2 with q | e | _
  ·simp[eF,eD,h1,h2,hx,hq]
   exact UV q.1 (by simp) (by simp[zm,hx,hq])
  ·rw[hq] at hr
   simp[eF,eD,h1,h2,hx,hq]
   exact hr
  ·rw[hq] at hr;exact hr.elim
 ·simp[eF,eD,h1,hx]
end Go.Gv
