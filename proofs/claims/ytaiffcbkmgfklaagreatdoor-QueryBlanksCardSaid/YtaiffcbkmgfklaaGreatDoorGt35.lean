/- A part of the framework and of the walks: T29 V20 W85. -/
import Derived.Test.YtaiffcbkmgfklaaGreatDoorGt24
import Derived.Test.YtaiffcbkmgfklaaGreatDoorGt33
import Derived.Test.YtaiffcbkmgfklaaGreatDoorGt34
set_option linter.unusedSimpArgs false
set_option linter.unusedVariables false
set_option linter.unusedSectionVars false
set_option maxRecDepth 100000

namespace Go.Gv
open Cod (enc dec)
def CI.noCv:CI→Bool
 | .op _ _ (.callv _ _)=> false
 | .op _ _ (.callb _ f _)=> f !=dc
 | _=> true
def CI.fn:CI→List Nat
 | .op _ _ (.call f _)=> [f]
 | .op _ _ (.callb _ f _)=> [f]
 | _=> []
def noCv:CC→Bool
 | .reg l=> l.all CI.noCv
 | .regd pre tl=> pre.all CI.noCv && tl.all CI.noCv
 | .seq a b=> noCv a && noCv b
 | .ite _ a b=> noCv a && noCv b
 | .block _ b=> noCv b
 | .loop _ b=> noCv b
 | .cut _ b=> noCv b
 | .keep _ _ b=> noCv b
 | _=> true
def Dq:List CI→List Nat
 | []=> []
 | x::l=> (if l.any fun y=> hU x y then x.fn else[]) ++Dq l
def hM:CC→List Nat
 | .regd pre _=> Dq (pre.filter CI.real)
 | .seq a b=> hM a++hM b
 | .ite _ a b=> hM a++hM b
 | .block _ b=> hM b
 | .loop _ b=> hM b
 | .cut _ b=> hM b
 | .keep _ _ b=> hM b
 | _=> []
def Vp (z:List PanicEntry→Prop) (P:Program) (S:Nat→Spc):Prop:= ∀f,(f=dc→wl z P (S f).pt)∧(f≠dc→TriZ z P f (S f).pt)
section
variable {z:List PanicEntry→Prop} {P:Program} {S:Nat→Spc}
theorem SL (hS:Vp z P S): ∀x:CI,x.noCv=true→dF P z S x
 | .frz _ _,_=> trivial
 | .op _ _ c,h=> by
   cases c <;> try exact trivial
   ·rename_i f args
    show CallOk P z S (.call f args)
    simp only[CallOk]
    split
    ·exact(hS dc).1 rfl
    ·rename_i e;exact(hS f).2 e
   ·cases h
   ·rename_i r f args
    have h: (f !=dc)=true:=h
    exact(hS f).2 (by simpa using h)
theorem SK {x:CI} (h:x.noCv=true) (hq: ∀f∈x.fn,f≠dc∧Tri P f (S f).pt):dF P GM S x:=by
 cases x with
 | frz _ _=> trivial
 | op d g c=>
   cases c <;> try exact trivial
   ·rename_i f args
    obtain⟨h1,h2⟩:=hq f (by simp[CI.fn])
    show CallOk P GM S (.call f args)
    simp only[CallOk,if_neg h1]
    exact h2.z
   ·cases h
   ·rename_i r f args
    exact((hq f (by simp[CI.fn])).2).z
theorem Gz: ∀l:List CI,(∀x∈l,x.noCv=true)→(∀f∈Dq l,f≠dc∧Tri P f (S f).pt)→QuietL P S l
 | [],_,_=> trivial
 | x::l,h,hq=> by
   refine⟨?_,Gz l (fun y hy=> h y (by simp[hy])) fun f hf=> hq f (by simp[Dq,hf])⟩
   cases hb:l.any fun y=> hU x y with
   | false=>
     left
     intro y hy
     have:=List.any_eq_false.1 hb y hy
     simpa using this
   | true=>
     right
     exact SK (h x (by simp)) fun f hf=> hq f (by simp[Dq,hb,hf])
theorem nr (hS:Vp z P S): ∀cc:CC,noCv cc=true→(∀f∈hM cc,f≠dc∧Tri P f (S f).pt)→zU P z S cc
 | .reg l,h,_=> fun x hx=> SL hS x (List.all_eq_true.1 h x hx)
 | .regd pre tl,h,hq=> by
   simp only[noCv,Bool.and_eq_true] at h
   exact⟨fun x hx=> SL hS x (List.all_eq_true.1 h.1 x hx),fun x hx=> SL hS x (List.all_eq_true.1 h.2 x hx),Gz _ (fun x hx=> List.all_eq_true.1 h.1 x (List.mem_filter.1 hx).1) hq⟩
 | .seq a b,h,hq=> by
   simp only[noCv,Bool.and_eq_true] at h
   exact⟨nr hS a h.1 fun f hf=> hq f (by simp[hM,hf]),nr hS b h.2 fun f hf=> hq f (by simp[hM,hf])⟩
 | .ite _ a b,h,hq=> by
   simp only[noCv,Bool.and_eq_true] at h
   exact⟨nr hS a h.1 fun f hf=> hq f (by simp[hM,hf]),nr hS b h.2 fun f hf=> hq f (by simp[hM,hf])⟩
 | .block _ b,h,hq=> nr hS b h hq
 | .loop _ b,h,hq=> nr hS b h hq
 | .cut _ b,h,hq=> nr hS b h hq
 | .keep _ _ b,h,hq=> nr hS b h hq
 | .skip,_,_=> trivial
 | .exit _,_,_=> trivial
 | .ret,_,_=> trivial
theorem hX {l:List (Nat×Spc)} (h: ∀p∈l,(p.1=dc→wl z P p.2.pt)∧(p.1≠dc→TriZ z P p.1 p.2.pt)):Vp z P (ct l):=by
 induction l with
 | nil=> exact fun f=> ⟨fun _=> fun _ _ _ _ _ _ _ _ _ _ _ _ _ h=> h.elim,fun _=> (kK P f).z⟩
 | cons p l ih=>
   obtain⟨g,c⟩:=p
   intro f
   unfold ct
   split
   ·rename_i e
    subst e
    exact h (f,c) (by simp)
   ·exact ih (fun p hp=> h p (by simp[hp])) f
theorem fa: ∀p∈ ([]:List (Nat×Spc)),(p.1=dc→wl z P p.2.pt)∧(p.1≠dc→TriZ z P p.1 p.2.pt):=fun p h=> by cases h
theorem aw {f:Nat} {c:Spc} {l:List (Nat×Spc)} (h:TriZ z P f c.pt) (hf: (f==dc)=false) (hl: ∀p∈l,(p.1=dc→wl z P p.2.pt)∧(p.1≠dc→TriZ z P p.1 p.2.pt)):
 ∀p∈ (f,c)::l,(p.1=dc→wl z P p.2.pt)∧(p.1≠dc→TriZ z P p.1 p.2.pt):=fun p hp=> by
 rcases List.mem_cons.1 hp with rfl | hp
 ·exact⟨fun e=> absurd e (by simpa using hf),fun _=> h⟩
 ·exact hl p hp
theorem LM {c:Spc} {l:List (Nat×Spc)} (h:wl z P c.pt) (hl: ∀p∈l,(p.1=dc→wl z P p.2.pt)∧(p.1≠dc→TriZ z P p.1 p.2.pt)):
 ∀p∈ (dc,c)::l,(p.1=dc→wl z P p.2.pt)∧(p.1≠dc→TriZ z P p.1 p.2.pt):=fun p hp=> by
 rcases List.mem_cons.1 hp with rfl | hp
 ·exact⟨fun _=> h,fun e=> absurd rfl e⟩
 ·exact hl p hp
end
def pX (ty:Nat) (f:Int×Int):Value:= .iface ty (.agg #[.int .i64 f.1, .int .i64 f.2])
def zF (ty:Nat) (f:Int×Int):List PanicEntry→Prop:=fun c=> c= [{ v:=pX ty f,recovered:=false }]∧f.2≠0
def YW (ty:Nat) (f:Int×Int):PT:=fun _ ds _ _=> ds= [.v (pX ty f)]∧f.2≠0
theorem Rp (ty:Nat) (f:Int×Int):sp (YW ty f):=fun _ _ _ _ _ _ h=> h
def WE (ty:Nat) (f:Int×Int):Spc:= .gen _ (Rp ty f)
@[simp] theorem qaQ (ty:Nat) (f:Int×Int) (d:Nat) (a b:Int) (H:aa) (K:D→aa→Prop): (WE ty f).pt d [.v (.iface ty (.agg #[.int .i64 a, .int .i64 b]))] H K=((a,b)=f∧b≠0):=by
 refine propext ⟨fun h=> ?_,fun h=> ?_⟩
 ·obtain⟨h,hne⟩: [D.v (.iface ty (.agg #[.int .i64 a, .int .i64 b]))]= [.v (pX ty f)]∧f.2≠0:=h
  simp only[pX,List.cons.injEq,D.v.injEq,Value.iface.injEq,Value.agg.injEq,Array.mk.injEq,Value.int.injEq,and_true,true_and] at h
  exact⟨Prod.ext h.1 h.2,by rw[h.2];exact hne⟩
 ·obtain⟨h,hne⟩:=h
  subst h
  exact⟨rfl,hne⟩
theorem Ig {P:Program} (ty:Nat) (f:Int×Int):wl (zF ty f) P (WE ty f).pt:=by
 intro _ O tp w v e H d K _ _ _ hr h
 obtain⟨h,hne⟩: [e]= [.v (pX ty f)]∧f.2≠0:=h
 cases h
 have:=hr.inv_v
 exact⟨⟨_,_,this⟩,by rw[this],hne⟩
theorem OI {P:Program} {g ty:Nat} {A:PT} {a:Int} (h:TriZ (zF ty (a,0)) P g A):Tri P g A:=fun O tp w vs ds H d K h1 h2 h3 h4 h5 h6=>
 ⟨(h O tp w vs ds H d K h1 h2 h3 h4 h5 h6).1,(h O tp w vs ds H d K h1 h2 h3 h4 h5 h6).2.mono fun _ _ h=> h.elim id fun⟨_,_,h,_⟩=> absurd rfl h.2⟩
inductive Out (α:Type) where
 | ok (x:α)
 | err (f:Int×Int)
 | no
def Out.bind {α β:Type} :Out α→(α→Out β)→Out β
 | .ok x,f=> f x
 | .err e,_=> .err e
 | .no,_=> .no
def Out.map {α β:Type} (f:α→β):Out α→Out β
 | .ok x=> .ok (f x)
 | .err e=> .err e
 | .no=> .no
def Out.of {α:Type} :Option α→Out α
 | some x=> .ok x
 | none=> .no
@[simp] theorem Out.bind_ok {α β:Type} (x:α) (f:α→Out β): (Out.ok x).bind f=f x:=rfl
@[simp] theorem Out.bind_err {α β:Type} (e:Int×Int) (f:α→Out β): (Out.err e).bind f= .err e:=rfl
@[simp] theorem Out.bind_no {α β:Type} (f:α→Out β): (Out.no).bind f= .no:=rfl
@[simp] theorem Out.map_ok {α β:Type} (x:α) (f:α→β): (Out.ok x).map f= .ok (f x):=rfl
@[simp] theorem Out.map_err {α β:Type} (e:Int×Int) (f:α→β): (Out.err e).map f= .err e:=rfl
@[simp] theorem Out.map_no {α β:Type} (f:α→β): (Out.no).map f= .no:=rfl
@[simp] theorem Out.of_some {α:Type} (x:α):Out.of (some x)= .ok x:=rfl
@[simp] theorem Out.of_none {α:Type} :Out.of (none:Option α)= .no:=rfl
def Out.fine {α:Type} (f:Int×Int):Out α→Prop
 | .ok _=> True
 | .err e=> e=f
 | .no=> False
@[simp] theorem Out.fine_err {α:Type} (f e:Int×Int): (Out.err e:Out α).fine f=(e=f):=id rfl
theorem Out.fine_ofm {α β:Type} {f:Int×Int} {o:Option α} {k:α→β} (h: ((Out.of o).map k).fine f): ∃x,o=some x:=by
 cases o with
 | some x=> exact⟨x,rfl⟩
 | none=> exact h.elim
theorem Out.fine_bind {α β:Type} {f:Int×Int} {o:Out α} {k:α→Out β} (h: (o.bind k).fine f): (∃x,o= .ok x∧(k x).fine f)∨(o= .err f∧o.bind k= .err f):=by
 cases o with
 | ok x=> exact .inl ⟨x,rfl,h⟩
 | err e=> have h:e=f:=h;subst h;exact .inr ⟨rfl,rfl⟩
 | no=> exact h.elim
def xY {α:Type} (f:Int×Int) (o:Out α) (K:α→Prop):Prop:=match o with
 | .ok x=> K x
 | .err e=> e=f
 | .no=> False
@[simp] theorem qaR {α:Type} (f:Int×Int) (x:α) (K:α→Prop):xY f (.ok x) K=K x:=id rfl
@[simp] theorem YY {α:Type} (f e:Int×Int) (K:α→Prop):xY f (.err e) K=(e=f):=id rfl
@[congr] theorem qaS {α:Type} {f:Int×Int} {o o':Out α} {K:α→Prop} (h:o=o'):xY f o K=xY f o' K:=by subst h;rfl
@[simp] theorem YX {α β:Type} (f:Int×Int) (o:Out α) (g:α→β) (K:β→Prop):xY f (o.map g) K=xY f o fun x=> K (g x):=by cases o <;> exact id rfl
@[simp] theorem Y0 {α β:Type} (o:Option α) (g:α→β) (K:β→Prop):lc (o.map g) K=lc o fun x=> K (g x):=by cases o <;> exact id rfl
theorem Ux {α:Type} {f:Int×Int} {o:Out α} {K:α→Prop} : (o.fine f∧ ∀x,o= .ok x→K x)=xY f o K:=by
 cases o with
 | ok x=> exact propext ⟨fun h=> h.2 x rfl,fun h=> ⟨trivial,fun y e=> by cases e;exact h⟩⟩
 | err e=> exact propext ⟨fun h=> h.1,fun h=> ⟨h,fun y e=> by cases e⟩⟩
 | no=> exact propext ⟨fun h=> h.1,fun h=> ⟨h,fun y e=> by cases e⟩⟩
theorem Out.bind_map {α β γ:Type} (o:Out α) (k:α→Out β) (g:β→γ): (o.bind k).map g=o.bind fun x=> (k x).map g:=by cases o <;> rfl
theorem Out.bind_bind {α β γ:Type} (o:Out α) (k:α→Out β) (g:β→Out γ): (o.bind k).bind g=o.bind fun x=> (k x).bind g:=by cases o <;> rfl
theorem Out.map_bind {α β γ:Type} (o:Out α) (k:α→β) (g:β→Out γ): (o.map k).bind g=o.bind fun x=> g (k x):=by cases o <;> rfl
theorem Out.map_map {α β γ:Type} (o:Out α) (k:α→β) (g:β→γ): (o.map k).map g=o.map fun x=> g (k x):=by cases o <;> rfl
section
variable {α β:Type} {f:Int×Int} {F0:Out β} {K:α→Prop}
theorem jN {o:Out α} {k:α→Out β} (hf:F0.fine f) (e:F0=o.bind k) (h: ∀x,F0=k x→K x):xY f o K:=by
 cases o with
 | ok x=> exact h x e
 | err g=> subst e;exact hf
 | no=> subst e;exact hf
theorem Dv {o:Out α} {k:α→β} (hf:F0.fine f) (e:F0=o.map k) (h: ∀x,F0= .ok (k x)→K x):xY f o K:=by
 cases o with
 | ok x=> exact h x e
 | err g=> subst e;exact hf
 | no=> subst e;exact hf
theorem zI {o:Out β} {K:β→Prop} (hf:F0.fine f) (e:F0=o) (h: ∀x,F0= .ok x→K x):xY f o K:=by
 cases o with
 | ok x=> exact h x e
 | err g=> subst e;exact hf
 | no=> subst e;exact hf
theorem mw {o:Option α} {k:α→Out β} (hf:F0.fine f) (e:F0=(Out.of o).bind k) (h: ∀x,F0=k x→K x):lc o K:=by
 cases o with
 | some x=> exact h x e
 | none=> subst e;exact hf
theorem Dw {o:Option α} {k:α→β} (hf:F0.fine f) (e:F0=(Out.of o).map k) (h: ∀x,F0= .ok (k x)→K x):lc o K:=by
 cases o with
 | some x=> exact h x e
 | none=> subst e;exact hf
end
section
variable {X Y Z:Type} {P:Program} {S:Nat→Spc} {f:Nat} {im:List Nat} {cc:CC} {rs:List aK} {N:Nat}
theorem JD {z:List PanicEntry→Prop} {B:tc X} {A:jL Z} {er:Y→D} {pre:X→Z→Prop} {post:X→Z→X→Y→Prop} (h1i:0∉B.ids) (hS:zU P z S cc) (h:aS P f im cc rs N) (hN: ∀z,(A.view z).length+1≤N) (hw:Tj cc rs S B A er pre post):TriZ z P f (qbY B A er pre post).pt:=by
 obtain⟨BU,enter,fn,code,h1,h2,h3,h4,h5⟩:=h
 refine CA hS BU h1 h2 enter h3 h4 h5 ?_
 rintro ds H d K ⟨id,b,x,z,ds',rfl,hd,hid,hhp,hni,hp,hK⟩
 have hl:=A.le ds' z hd
 have h0: ∀i r,ak (fX (B.hp x) cu) 0 (some (.box b (B.ce x))) i=some r→i=0∧r= .box b (B.ce x)∨i≠0∧(i,r) ∈B.hp x:=by
  intro i r h
  by_cases e:i=0
  ·subst e
   simp only[ak,if_true] at h
   cases h
   exact .inl ⟨rfl,rfl⟩
  ·simp only[ak,e,if_false] at h
   exact .inr ⟨e,yO h⟩
 have hk: ∀ {x:X} {i:Nat} {r:Res},(i,r) ∈B.hp x→i∈B.ids:=by
  intro x i r h
  rw[←B.keys x]
  exact List.mem_map.2 ⟨_,h,rfl⟩
 refine⟨by simp only[List.length_cons];rw[hl.1];exact hN z, .bptr 0 b 0::A.view z,ak (fX (B.hp x) cu) 0 (some (.box b (B.ce x))),fun i=> if i=0 then id else i, .cons (.bptr _ _ _ _) hl,fun i r h=> ?_,fun i j r s h h' e=> ?_,_,hw b x z hp,?_⟩
 ·rcases h0 i r h with⟨rfl,rfl⟩ | ⟨e,hm⟩
  ·exact hid
  ·simp only[e,if_false]
   exact hhp _ hm
 ·rcases h0 i r h with⟨rfl,rfl⟩ | ⟨e1,hm⟩
  ·rcases h0 j s h' with⟨rfl,rfl⟩ | ⟨e2,hm2⟩
   ·rfl
   ·simp only[e2,if_true,if_false] at e
    subst e
    exact absurd (hk hm2) hni
  ·rcases h0 j s h' with⟨rfl,rfl⟩ | ⟨e2,hm2⟩
   ·simp only[e1,if_true,if_false] at e
    subst e
    exact absurd (hk hm) hni
   ·simpa only[e1,e2,if_false] using e
 ·rintro r H' ⟨x',y,hfr,hj,hhp',hpost⟩
  refine⟨er y,fun i=> if i=0∨i∈B.ids then none else H' i,ak (fX (B.hp x') H) id (some (.box b (B.ce x'))),fun i=> if i=id then some 0 else if i∈B.ids then some i else none,hfr,fun j q h=> ?_,hK x' y hpost,fun i s hi=> ?_,fun i j' k s q hi hj' e1 e2=> ?_⟩
  ·by_cases e:j=0∨j∈B.ids
   ·simp[e] at h
   ·simp only[e,if_false] at h
    refine⟨h,fun i hh=> e ?_⟩
    by_cases e1:i=id
    ·simp only[e1,if_true] at hh
     cases hh
     exact .inl rfl
    ·simp only[e1,if_false] at hh
     by_cases e2:i∈B.ids
     ·simp only[e2,if_true] at hh
      cases hh
      exact .inr e2
     ·simp[e2] at hh
  ·by_cases e:i=id
   ·subst e
    simp only[ak,if_true] at hi
    cases hi
    simpa using hj
   ·simp only[ak,e,if_false] at hi ⊢
    by_cases e2:i∈B.ids
    ·simp only[e2,if_true]
     exact hhp' _ (yP (by rw[B.keys];exact e2) hi)
    ·simp only[e2,if_false]
     rw[yN (by rw[B.keys];exact e2)] at hi
     refine⟨hi,fun k q h he=> ?_⟩
     rcases h0 k q h with⟨rfl,rfl⟩ | ⟨e3,hm⟩
     ·simp only[if_true] at he
      exact e he.symm
     ·simp only[e3,if_false] at he
      subst he
      exact e2 (hk hm)
  ·by_cases c1:i=id
   ·by_cases c2:j'=id
    ·exact c1.trans c2.symm
    ·simp only[c1,if_true] at e1
     cases e1
     simp only[c2,if_false] at e2
     by_cases c3:j'∈B.ids
     ·simp only[c3,if_true] at e2
      cases e2
      exact absurd c3 h1i
     ·simp[c3] at e2
   ·simp only[c1,if_false] at e1
    by_cases c3:i∈B.ids
    ·simp only[c3,if_true] at e1
     cases e1
     by_cases c2:j'=id
     ·simp only[c2,if_true] at e2
      cases e2
      exact absurd c3 h1i
     ·simp only[c2,if_false] at e2
      by_cases c4:j'∈B.ids
      ·simp only[c4,if_true] at e2
       cases e2
       rfl
      ·simp[c4] at e2
    ·simp[c3] at e1
end
section
variable {Y Z:Type}
def xU (A:jL Z) (er:Y→D) (f:Int×Int) (F:Rdr→Z→Out (Rdr×Y)):Spc:=qaE A er (fun s z=> (F s z).fine f) (fun s z s' y=> F s z= .ok (s',y))
def OR (er:Y→D) (f:Int×Int) (F:Rdr→Z→Out (Rdr×Y)) (id b:Nat) (r:Option Res) (o:Option Z) (H:aa) (K:D→aa→Prop):Prop:=
 ∃x,r=some (.box b (cI x))∧lc o fun z=> xY f (F x z) fun q=> K (er q.2) (ak H id (some (.box b (cI q.1))))
@[congr] theorem qaC {er:Y→D} {f:Int×Int} {F:Rdr→Z→Out (Rdr×Y)} {id b:Nat} {r r':Option Res} {o o':Option Z} {H:aa} {K:D→aa→Prop} (h1:r=r') (h2:o=o'):OR er f F id b r o H K=OR er f F id b r' o' H K:=by subst h1;subst h2;rfl
@[simp] theorem Q9 (A:jL Z) (er:Y→D) (f:Int×Int) (F:Rdr→Z→Out (Rdr×Y)) (d i b:Nat) (ds:List D) (H:aa) (K:D→aa→Prop): (xU A er f F).pt d (.bptr i b 0::ds) H K=OR er f F i b (H i) (A.dec ds) H K:=by
 unfold xU OR
 rw[Rb]
 unfold qcy
 refine propext (exists_congr fun x=> and_congr_right fun _=> ?_)
 cases A.dec ds with
 | none=> exact Iff.rfl
 | some z=>
   show((F x z).fine f∧ ∀x' y,F x z= .ok (x',y)→_) ↔xY f (F x z) _
   rw[←Ux]
   exact and_congr_right fun _=> ⟨fun h q e=> h q.1 q.2 e,fun h x' y e=> h (x',y) e⟩
@[simp] theorem qcx (er:Y→D) (f:Int×Int) (F:Rdr→Z→Out (Rdr×Y)) (id b:Nat) (l:B) (p dp:Int) (e:B) (g:Int) (o:Option Z) (H:aa) (K:D→aa→Prop):
 OR er f F id b (some (.box b [.v (.string l), .v (.int .i64 p), .v (.int .i64 dp), .v (.string e), .v (.int .i64 g)])) o H K=lc o fun z=> xY f (F ⟨l,p,dp,e,g⟩ z) fun q=> K (er q.2) (ak H id (some (.box b (cI q.1)))):=by
 refine propext ⟨fun⟨x,h1,h2⟩=> ?_,fun h=> ⟨⟨l,p,dp,e,g⟩,rfl,h⟩⟩
 have e1:cI ⟨l,p,dp,e,g⟩=cI x:=by
  have:=Option.some.inj h1
  exact(Res.box.inj this).2
 have:=At e1
 subst this
 exact h2
theorem UP {X:Type} {ce:X→List D} (hce: ∀x y,ce x=ce y→x=y) {A:jL Z} {er:Y→D} {pre:X→Z→Prop} {post:X→Z→X→Y→Prop} {id b:Nat} {ds:List D} :XS id (qbY (Gf ce) A er pre post).pt (.bptr id b 0::ds):=by
 refine⟨fun r=> ∃x z,A.dec ds=some z∧r=some (.box b (ce x))∧pre x z,fun r d u=> ∃x z x' y,A.dec ds=some z∧r=some (.box b (ce x))∧post x z x' y∧d=er y∧u= .box b (ce x'),fun t H K=> ⟨?_,?_⟩⟩
 ·rintro⟨id',b',x,z,ds',h1,h2,h3,h4,h5,h6,h7⟩
  cases h1
  refine⟨⟨x,z,h2,h3,h6⟩,fun d u ⟨x2,z2,x',y,e1,e2,e3,e4,e5⟩=> ?_⟩
  rw[h2] at e1
  cases e1
  have h3:H id=some (.box b (ce x)):=h3
  rw[h3] at e2
  have:=hce _ _ (Res.box.inj (Option.some.inj e2)).2
  subst this
  subst e4;subst e5
  exact h7 _ _ e3
 ·rintro⟨⟨x,z,h2,h3,h6⟩,h7⟩
  exact⟨id,b,x,z,ds,rfl,h2,h3,fun p hp=> by simp[Gf] at hp,by simp[Gf],h6,fun x' y hp=> h7 _ _ ⟨x,z,x',y,h2,h3,hp,rfl,rfl⟩⟩
@[simp] theorem YT (A:jL Z) (er:Y→D) (f:Int×Int) (F:Rdr→Z→Out (Rdr×Y)) (i b:Nat) (dst:Option Nat) (ds:List D) (H:aa) (K:D→aa→Prop):GB i dst (xU A er f F) (.bptr i b 0::ds) H K=OR er f F i b (H i) (A.dec ds) H K:=by
 rw[←Q9 A er f F (dst.getD 0)]
 exact propext ⟨fun h=> h.2,fun h=> ⟨UP fun _ _ e=> At e,h⟩⟩
abbrev eP (cc:CC) (rs:List aK) (S:Nat→Spc) (A:jL Z) (er:Y→D) (f:Int×Int) (F:Rdr→Z→Out (Rdr×Y)):Prop:=qi cc rs S A er (fun s z=> (F s z).fine f) (fun s z s' y=> F s z= .ok (s',y))
variable {P:Program} {S:Nat→Spc} {g:Nat} {im:List Nat} {cc:CC} {rs:List aK} {N:Nat}
theorem bx {ty:Nat} {A:jL Z} {er:Y→D} {f:Int×Int} {F:Rdr→Z→Out (Rdr×Y)} (hS:Vp (zF ty f) P S) (h:aS P g im cc rs N) (hN: ∀z,(A.view z).length+1≤N) (hcv:noCv cc=true) (hq: ∀f∈hM cc,f≠dc∧Tri P f (S f).pt)
 (hw:eP cc rs S A er f F):TriZ (zF ty f) P g (xU A er f F).pt:=JD (by simp[Vv,Gf]) (nr hS cc hcv hq) h hN fun b x z hp=> hw b x z hp
end
end Go.Gv

namespace Go.Gv
def cf (s:Rdr) (t:B):Out (Rdr×Bool):= .of (ms s t)
def ej (s:Rdr):Out Rdr:= .of (pA s)
def de:Rdr→List B→Out Rdr
 | s, []=> .ok s
 | s,t::l=> if bX s t then(ej s).bind fun x=> de x l else .err (s.pos,3)
def dg (s:Rdr) (k:Int):Out (Rdr×B):=if s.kind=k then(ej s).map fun x=> (x,s.text) else .err (s.pos,3)
def ot (s:Rdr):Out (Rdr×B):=(de s [⟨#[44]⟩]).bind fun x=> dg x 2
def yg (most:Int):List UInt8→Int→Int
 | [],n=> n
 | c::l,n=> if n≤most then yg most l (10*n+ ((c.toNat:Int) -48)) else n
def Ff (c:U8):Bool:=decide (c.val=48)
def kp (t:B):B:=t.extract (gS Ff t 0) t.size
def Pa (most:Int) (t:B):Int:=yg most (kp t).data.toList 0
def numberE (s:Rdr) (most a:Int):Out (Rdr×Int):=(dg s 3).bind fun r=>
 if qQ r.2=true∧most≤1000000 then(if most < Pa most r.2 then .err (a,8) else .ok (r.1,Pa most r.2)) else .no
def bigE (s:Rdr):Out (Rdr×Int):=numberE s 100000 s.pos
def signedE (s:Rdr):Out (Rdr×Int):=(cf s ⟨#[45]⟩).bind fun w=> if w.2 then(bigE w.1).map fun n=> (n.1, -n.2) else bigE w.1
section
variable (N:Rdr→Out (Rdr×Cond)) (O:Rdr→Out (Rdr×Cond))
def jc:Nat→Rdr→List Cond→Out (Rdr×List Cond)
 | 0,_,_=> .no
 | k+1,s,acc=> (cf s ⟨#[38]⟩).bind fun w=> if w.2 then(N w.1).bind fun r=> jc k r.1 (acc++ [r.2]) else .ok (w.1,acc)
def andE (s:Rdr):Out (Rdr×Cond):=(N s).bind fun r=> (jc N 500 r.1 [r.2]).map fun q=> (q.1,SO 7 q.2)
def la:Nat→Rdr→List Cond→Out (Rdr×List Cond)
 | 0,_,_=> .no
 | k+1,s,acc=> (cf s ⟨#[124]⟩).bind fun w=> if w.2 then(andE N w.1).bind fun r=> la k r.1 (acc++ [r.2]) else .ok (w.1,acc)
def orE (s:Rdr):Out (Rdr×Cond):=(andE N s).bind fun r=> (la N 500 r.1 [r.2]).map fun q=> (q.1,SO 8 q.2)
def nG (s:Rdr) (name:B):Out (Rdr×Cond):=(dg s 4).bind fun v=> (cf v.1 ⟨#[37,99]⟩).map fun w=> (w.1,⟨2,name,E0,v.2,E0,w.2, []⟩)
def rC (s:Rdr):Out (Rdr×Cond):=(dg s 2).bind fun n=> (cf n.1 ⟨#[44]⟩).bind fun c=>
 if c.2 then(dg c.1 2).bind fun a=> (de a.1 [⟨#[61]⟩]).bind fun u=> (dg u 4).bind fun v=> (de v.1 [⟨#[41]⟩]).map fun z=> (z,⟨5,n.2,a.2,v.2,E0,false, []⟩)
 else(de c.1 [⟨#[41]⟩]).map fun z=> (z,⟨5,n.2,E0,E0,E0,false, []⟩)
def A0 (s:Rdr) (name:B):Out (Rdr×Cond):=
 if d6 s [⟨#[99,111,110,116,97,105,110,115]⟩] then(ej s).bind fun x=> (dg x 4).map fun v=> (v.1,⟨3,name,E0,v.2,E0,false, []⟩) else
 (cf s ⟨#[33,61]⟩).bind fun w=> if w.2 then(nG w.1 name).map fun v=> (v.1,⟨6,E0,E0,E0,E0,false, [v.2]⟩) else
 (de w.1 [⟨#[61]⟩]).bind fun u=> if u.kind=2 then(dg u 2).bind fun l=> (de l.1 [⟨#[46]⟩]).bind fun d=> (dg d 2).map fun a=> (a.1,⟨4,name,a.2,E0,l.2,false, []⟩)
 else nG u name
def atomsE (s:Rdr):Out (Rdr×Cond):=(dg s 2).bind fun n=> if n.2=⟨#[105,110]⟩ then(cf n.1 ⟨#[40]⟩).bind fun v=> if v.2 then rC v.1 else A0 v.1 n.2 else A0 n.1 n.2
def notE (s:Rdr):Out (Rdr×Cond):=(cf s ⟨#[33]⟩).bind fun w=> if w.2 then(N w.1).map fun r=> (r.1,⟨6,E0,E0,E0,E0,false, [r.2]⟩) else
 (cf w.1 ⟨#[40]⟩).bind fun u=> if u.2 then(O u.1).bind fun x=> (de x.1 [⟨#[41]⟩]).map fun z=> (z,x.2) else atomsE u.1
end
def iD:Nat→Rdr→Out (Rdr×Cond)
 | 0=> fun _=> .no
 | n+1=> notE (iD n) (orE (iD n))
section
variable (A:Rdr→Bool→Out (Rdr×Pat)) (O:Rdr→Out (Rdr×Cond))
def tokenE (s:Rdr) (label:B):Out (Rdr×Pat):=(cf s ⟨#[91]⟩).bind fun u=> if u.2 then
 (if bX u.1 ⟨#[93]⟩ then(de u.1 [⟨#[93]⟩]).map fun z=> (z,⟨1,⟨1,E0,E0,E0,E0,false, []⟩,label,E0,0,0, []⟩)
 else(O u.1).bind fun x=> (de x.1 [⟨#[93]⟩]).map fun z=> (z,⟨1,x.2,label,E0,0,0, []⟩))
 else(nG u.1 E0).map fun v=> (v.1,⟨1,v.2,label,E0,0,0, []⟩)
def pF (s:Rdr) (op:Int):Out (Rdr×Pat):=(dg s 2).bind fun n=> (de n.1 [⟨#[62]⟩]).map fun z=> (z,⟨op,Cond0,E0,n.2,0,0, []⟩)
def itemE (s:Rdr):Out (Rdr×Pat):=
 (cf s ⟨#[60]⟩).bind fun b=> if b.2 then pF b.1 2 else(cf b.1 ⟨#[60,47]⟩).bind fun c=> if c.2 then pF c.1 3 else
 (cf c.1 ⟨#[40]⟩).bind fun d=> if d.2 then(A d.1 true).bind fun q=> (de q.1 [⟨#[41]⟩]).map fun w=> (w,q.2) else
 if d.1.kind=2 then(dg d.1 2).bind fun n=> (de n.1 [⟨#[58]⟩]).bind fun u=> tokenE O u n.2 else tokenE O d.1 E0
def Ax (s:Rdr) (a:Int):Out (Rdr×Option (Int×Int)):=(numberE s 16 a).bind fun lo=> (cf lo.1 ⟨#[44]⟩).bind fun c=>
 if c.2 then(if bX c.1 ⟨#[125]⟩ then(de c.1 [⟨#[125]⟩]).map fun z=> (z,some (lo.2, -1))
  else(numberE c.1 16 a).bind fun hi=> if hi.2 < lo.2 then .err (a,8) else(de hi.1 [⟨#[125]⟩]).map fun z=> (z,some (lo.2,hi.2)))
 else(de c.1 [⟨#[125]⟩]).map fun z=> (z,some (lo.2,lo.2))
def LT (s:Rdr):Out (Rdr×Option (Int×Int)):=(cf s ⟨#[63]⟩).bind fun w=> if w.2 then .ok (w.1,some (0,1)) else
 (cf w.1 ⟨#[42]⟩).bind fun w=> if w.2 then .ok (w.1,some (0, -1)) else
 (cf w.1 ⟨#[43]⟩).bind fun w=> if w.2 then .ok (w.1,some (1, -1)) else
 (cf w.1 ⟨#[123]⟩).bind fun w=> if w.2 then Ax w.1 s.pos else .ok (w.1,none)
def iB:Nat→Rdr→Pat→Out (Rdr×Pat)
 | 0,_,_=> .no
 | k+1,s,x=> (LT s).bind fun r=> match r.2 with
   | none=> .ok (r.1,x)
   | some m=> iB k r.1 ⟨6,Cond0,E0,E0,m.1,m.2, [x]⟩
def repE (s:Rdr):Out (Rdr×Pat):=(itemE A O s).bind fun r=> iB 500 r.1 r.2
def hZ (i:Bool):Nat→Rdr→List Pat→Out (Rdr×List Pat)
 | 0,_,_=> .no
 | k+1,s,acc=> (Out.of (mq s i)).bind fun b=> if b then(repE A O s).bind fun r=> hZ i k r.1 (acc++ [r.2]) else .ok (s,acc)
def seqE (s:Rdr) (i:Bool):Out (Rdr×Pat):=(repE A O s).bind fun r=> (hZ A O i 500 r.1 [r.2]).map fun q=> (q.1,tU 4 q.2)
def jd (i:Bool):Nat→Rdr→List Pat→Out (Rdr×List Pat)
 | 0,_,_=> .no
 | k+1,s,acc=> (cf s ⟨#[124]⟩).bind fun w=> if w.2 then(seqE A O w.1 i).bind fun r=> jd i k r.1 (acc++ [r.2]) else .ok (w.1,acc)
def altE (s:Rdr) (i:Bool):Out (Rdr×Pat):=(seqE A O s i).bind fun r=> (jd A O i 500 r.1 [r.2]).map fun q=> (q.1,tU 5 q.2)
end
def nl:Nat→Rdr→Bool→Out (Rdr×Pat)
 | 0=> fun _ _=> .no
 | n+1=> altE (nl n) (orE (iD (n+1)))
section
variable (N:Rdr→Out (Rdr×Glob)) (O:Rdr→Out (Rdr×Glob))
def f5:Nat→Rdr→List Glob→Out (Rdr×List Glob)
 | 0,_,_=> .no
 | k+1,s,acc=> (cf s ⟨#[38]⟩).bind fun w=> if w.2 then(N w.1).bind fun r=> f5 k r.1 (acc++ [r.2]) else .ok (w.1,acc)
def gandE (s:Rdr):Out (Rdr×Glob):=(N s).bind fun r=> (f5 N 500 r.1 [r.2]).map fun q=> (q.1,Sc 12 q.2)
def iG:Nat→Rdr→List Glob→Out (Rdr×List Glob)
 | 0,_,_=> .no
 | k+1,s,acc=> (cf s ⟨#[124]⟩).bind fun w=> if w.2 then(gandE N w.1).bind fun r=> iG k r.1 (acc++ [r.2]) else .ok (w.1,acc)
def gorE (s:Rdr):Out (Rdr×Glob):=(gandE N s).bind fun r=> (iG N 500 r.1 [r.2]).map fun q=> (q.1,Sc 13 q.2)
def ge:Nat→Rdr→List B→Out (Rdr×List B)
 | 0,_,_=> .no
 | k+1,s,acc=> (cf s ⟨#[44]⟩).bind fun w=> if w.2 then(dg w.1 4).bind fun r=> ge k r.1 (acc++ [r.2]) else .ok (w.1,acc)
def argsE (s:Rdr) (op:Int) (a:B):Out (Rdr×Glob):=
 if op=1 then .ok (s,⟨op,a,E0,E0,E0,E0,false,0,0, [], []⟩)
 else if op=10 then(de s [⟨#[44]⟩]).bind fun u=> (bigE u).bind fun lo=> (de lo.1 [⟨#[44]⟩]).bind fun v=> (bigE v).map fun hi=> (hi.1,⟨op,a,E0,E0,E0,E0,false,lo.2,hi.2, [], []⟩)
 else(ot s).bind fun b=>
  if op=4 then(de b.1 [⟨#[44]⟩]).bind fun u=> (signedE u).bind fun lo=> (de lo.1 [⟨#[44]⟩]).bind fun v=> (signedE v).map fun hi=> (hi.1,⟨op,a,b.2,E0,E0,E0,false,lo.2,hi.2, [], []⟩)
  else if op=5∨op=9 then(ot b.1).map fun n=> (n.1,⟨op,a,b.2,n.2,E0,E0,false,0,0, [], []⟩)
  else if op=8 then(ge 500 b.1 []).map fun l=> (l.1,⟨op,a,b.2,E0,E0,E0,false,0,0,l.2, []⟩)
  else .ok (b.1,⟨op,a,b.2,E0,E0,E0,false,0,0, [], []⟩)
def uN (s:Rdr) (name:B):Out (Rdr×Glob):=(de s [⟨#[46]⟩]).bind fun d=> (dg d 2).bind fun n=> (de n.1 [⟨#[61]⟩]).bind fun u=>
 if u.kind=2 then(dg u 2).bind fun b=> (de b.1 [⟨#[46]⟩]).bind fun v=> (dg v 2).map fun g=> (g.1,⟨3,name,b.2,n.2,g.2,E0,false,0,0, [], []⟩)
 else(dg u 4).bind fun v=> (cf v.1 ⟨#[37,99]⟩).map fun f=> (f.1,⟨2,name,E0,n.2,E0,v.2,f.2,0,0, [], []⟩)
def gatomsE (s:Rdr):Out (Rdr×Glob):=(dg s 2).bind fun n=> if 0 < w9 n.2 then(cf n.1 ⟨#[40]⟩).bind fun v=>
 if v.2 then(dg v.1 2).bind fun a=> (argsE a.1 (w9 n.2) a.2).bind fun g=> (de g.1 [⟨#[41]⟩]).map fun z=> (z,g.2) else uN v.1 n.2
 else uN n.1 n.2
def gnotE (s:Rdr):Out (Rdr×Glob):=(cf s ⟨#[33]⟩).bind fun w=> if w.2 then(N w.1).map fun r=> (r.1,⟨11,E0,E0,E0,E0,E0,false,0,0, [], [r.2]⟩) else
 (cf w.1 ⟨#[40]⟩).bind fun u=> if u.2 then(O u.1).bind fun x=> (de x.1 [⟨#[41]⟩]).map fun z=> (z,x.2) else gatomsE u.1
end
def j9:Nat→Rdr→Out (Rdr×Glob)
 | 0=> fun _=> .no
 | n+1=> gnotE (j9 n) (gorE (j9 n))
def eW (l:List B) (w:B):Int:=uL l fun z=> decide (w=z)
def Ez (s:Rdr):Out (Rdr×jK):=(cf s ⟨#[33]⟩).bind fun w=>
 if w.1.kind≠2∨eW filterL w.1.text < 1 then .err (w.1.pos,3) else(ej w.1).bind fun x=> (dg x 2).map fun n=> (n.1,⟨eW filterL w.1.text,w.2,n.2⟩)
def dS:Nat→Rdr→List jK→Out (Rdr×List jK)
 | 0,_,_=> .no
 | k+1,s,acc=> if bX s ⟨#[33]⟩ || d6 s filterL then(Ez s).bind fun f=> dS k f.1 (acc++ [f.2]) else .ok (s,acc)
def nz:B:=⟨#[115,116,114,97,116,101,103,121]⟩
def nH (s:Rdr):Out (Rdr×Int):=if d6 s [nz] then(ej s).bind fun x=> if d6 x cM then(dg x 2).map fun n=> (n.1,eW cM n.2) else .err (x.pos,3) else .ok (s,0)
def queryE (n:Nat) (s:Rdr):Out (Rdr×Qry):=(ej s).bind fun s=> (nl n s false).bind fun p=> (cf p.1 ⟨#[58,58]⟩).bind fun c=>
 (if c.2 then gorE (j9 n) c.1 else .ok (c.1,fh)).bind fun g=> (dS 500 g.1 []).bind fun f=> (nH f.1).bind fun z=>
 if z.1.kind=0 then .ok (z.1,⟨p.2,g.2,f.2,z.2⟩) else .err (z.1.pos,3)
end Go.Gv

namespace Go.Gv
open Cod (enc dec)
variable {S S0:Nat→Spc} {f:Int×Int}
abbrev s_trimLeftByte:Spc:=dt (a2 B U8) (fun x=> x.2.val=48) (enc (X:=B)) fun x y=> y=kp x.1
theorem qY:Walk gd f0 S (a2 B U8) (fun x=> x.2.val=48) (enc (X:=B)) fun x y=> y=kp x.1:=by
 rintro⟨s,⟨c⟩⟩ hc
 simp only at hc
 subst hc
 simp[gd,f0]
 refine gB (X:=Nat) [1] [] (fun k=> k≤s.size∧gS Ff s k=gS Ff s 0) (fun k=> [(0,enc (s.extract k s.size))]) (fun _=> []) (fun k=> s.size -k) 0 ⟨by omega,rfl⟩ (by simp) (by simp) ?_
 rintro k ⟨hk,hq⟩
 simp
 refine fun _=> ⟨fun hlt=> ⟨hlt,fun c hc=> ?_⟩,fun hge=> ?_⟩
 ·have hc:s.data[k]?=some c:=by
   rw[Array.getElem?_extract] at hc
   split at hc
   ·simpa using hc
   ·cases hc
  refine⟨fun h48=> ⟨by omega,k+1,⟨by omega,?_⟩,?_,by omega⟩,fun h48=> ?_⟩
  ·rw[←hq,qA hc,if_pos (by simp[Ff,h48])]
  ·rw[ByteArray.extract_extract]
   congr 1 <;> omega
  ·have:gS Ff s k=k:=by rw[qA hc,if_neg (by simp[Ff];exact h48)]
   rw[kp,←hq,this]
 ·rw[kp,←hq,Dh (by omega)]
abbrev s_trimLeft:Spc:=dt (a2 B B) (fun x=> x.2=⟨#[48]⟩) (enc (X:=B)) fun x y=> y=kp x.1
theorem wo (h1:S dy=s_trimLeftByte):Walk jA jq S (a2 B B) (fun x=> x.2=⟨#[48]⟩) (enc (X:=B)) fun x y=> y=kp x.1:=by
 rintro⟨s,t⟩ ht
 simp only at ht
 subst ht
 have e1: (⟨#[48]⟩:B).size=1:=rfl
 simp[jA,jq,h1,e1]
 refine fun h=> ?_
 subst h
 rfl
abbrev zn (f:Int×Int):Spc:=WE au f
abbrev Lq (s:Rdr) (_:Unit):Out (Rdr×Unit):= .err (s.pos,3)
abbrev nK (f:Int×Int):Spc:=xU a0 Xe f Lq
theorem Oy (hp:S dc=zn f):eP gY gU S a0 Xe f Lq:=by
 rintro b s ⟨⟩ h
 have h: ((s.pos,3):Int×Int)=f:=h
 simp[gY,gU,hp]
 exact h
@[simp] abbrev Jc (s:Rdr) (l:List B):Out (Rdr×Unit):=(de s l).map fun x=> (x,())
abbrev eH (f:Int×Int):Spc:=xU (a1 (List B)) Xe f Jc
theorem Qn (h1:S ac=bF) (h2:S aZ=nK f):eP iT io S (a1 (List B)) Xe f Jc:=by
 rintro b s l hr
 simp[iT,io]
 intro _
 refine aJ (X:=Rdr) [0,6] [] l.length (fun k x=> de s l=de x (l.drop k)) (fun _=> []) (fun x=> [(0, .box b (cI x))]) s (by simp) (by simp) (by omega) (by simp) (by simp) (by simp) (by simp) (by simp) ?_ ?_
 ·rintro k x hk hP
  obtain⟨t,ht⟩:=cV hk
  obtain⟨_,hgt⟩:=List.getElem?_eq_some_iff.1 ht
  rw[List.drop_eq_getElem_cons hk,hgt,de] at hP
  have hr0:=hr
  rw[Jc,hP] at hr
  by_cases hsg:bX x t
  ·rw[if_pos hsg] at hr hP
   have hr': (((ej x).bind fun x=> de x (List.drop (k+1) l)).map fun x=> (x,())).fine f:=hr
   cases hn:pA x with
   | none=> rw[ej,hn] at hr';exact hr'.elim
   | some x1=>
     rw[ej,hn] at hP
     have htk:ms x t=some (x1,true):=by simp[ms,hsg,hn]
     simp[h1,h2,hk,ht,hgt,htk]
     exact⟨x1,hP, .inl ⟨rfl,rfl,rfl,rfl,rfl⟩⟩
  ·rw[if_neg hsg] at hr hP
   have htk:ms x t=some (x,false):=by simp[ms,hsg]
   simp[h1,h2,hk,ht,hgt,htk]
   exact hr
 ·rintro x hP
  have hP:de s l= .ok x:=by simpa [de] using hP
  simp
  exact gg x () (.same _) (by simp) (by show(de s l).map _=_;rw[hP];rfl)
@[simp] abbrev B8 (s:Rdr) (k:Int):Out (Rdr×B):=dg s k
abbrev jf (f:Int×Int):Spc:=xU (a1 Int) (enc (X:=B)) f B8
theorem Ql (h1:S aU=nn) (h2:S aZ=nK f):eP fP fE S (a1 Int) (enc (X:=B)) f B8:=by
 rintro b s k hr
 by_cases hk:s.kind=k
 ·subst hk
  simp only[B8,dg,if_true,ej] at hr
  obtain⟨x,hx⟩:=Out.fine_ofm hr
  simp[fP,fE,h1,hx]
  exact Sj x (by simp) (by simp[dg,ej,hx])
 ·have hr: ((s.pos,3):Int×Int)=f:=by simpa only[B8,dg,if_neg hk,Out.fine_err] using hr
  simp[fP,fE,h1,h2,hk]
  exact hr
@[simp] abbrev Jb (s:Rdr) (_:Unit):Out (Rdr×B):=dg s 2
abbrev kS (f:Int×Int):Spc:=xU a0 (enc (X:=B)) f Jb
theorem Qm (h1:S az=jf f):eP fR fG S a0 (enc (X:=B)) f Jb:=by
 rintro b s ⟨⟩ hr
 simp only[Jb] at hr
 cases h:dg s 2 with
 | no=> rw[h] at hr;exact hr.elim
 | err e=>
   rw[h] at hr
   simp[fR,fG,h1,h]
   exact hr
 | ok q=>
   simp[fR,fG,h1,h]
   exact Sj q.1 (by simp) rfl
@[simp] abbrev Fd (s:Rdr) (_:Unit):Out (Rdr×B):=ot s
abbrev C0 (f:Int×Int):Spc:=xU a0 (enc (X:=B)) f Fd
theorem OC (h1:S ag=eH f) (h2:S aq=kS f):eP dP dN S a0 (enc (X:=B)) f Fd:=by
 rintro b s ⟨⟩ hr
 have hr0:=hr
 simp only[Fd,ot] at hr
 rcases Out.fine_bind hr with⟨x,hx,hr⟩ | ⟨hx, -⟩
 ·rcases hq:dg x 2 with q | e | _
  ·simp[dP,dN,h1,h2,hx,hq]
   exact Sj q.1 (by simp) (by simp[ot,hx,hq])
  ·rw[hq] at hr
   simp[dP,dN,h1,h2,hx,hq]
   exact hr
  ·rw[hq] at hr;exact hr.elim
 ·simp[dP,dN,h1,hx]
end Go.Gv
