/- A part of the framework and of the walks: C10 T29 V20 W85 W86 W87 W88. -/
import Derived.Test.YtaiffcbkmgfklaaGreatDoorGu10
import Derived.Test.YtaiffcbkmgfklaaGreatDoorGu14
import Derived.Test.YtaiffcbkmgfklaaGreatDoorGu18
import Derived.Test.YtaiffcbkmgfklaaGreatDoorGu19
set_option linter.unusedSimpArgs false
set_option linter.unusedVariables false
set_option linter.unusedSectionVars false
set_option maxRecDepth 100000

namespace Go.Gv
open Go.Proofs
def kq:CC:=oX [oB 4 (.mv (oS ⟨#[]⟩))] [0,1] [] (.seq (oX [oA 7 0,oB 8 (.eql false false [.str] (oT 7) (oS ⟨#[]⟩)),oA 9 8,oI 10 9 (.mv (oT 1)),oI 11 9 (.eql false false [.str] (oT 10) (oS ⟨#[]⟩)),oB 12 (.pick (oT 9) (.const (.bool true)) (oT 11))] [0,1,12] [] (.ite (oT 12) (oX [oA 13 0,oA 4 13] [4] [5] (.ret)) (.skip))) (.keep [0,1] [] (.seq (oX [oA 14 1,
 oB 15 (.slen (oT 14)),oB 16 (.eql false false [.int] (oT 15) (oN 1)),oA 17 16,oH 18 17 (.mv (oT 1)),oH 19 17 (.sidx (oT 18) (oN 0)),oH 20 17 (.cmp .lss (oT 19) (.const (.int .u8 128))),oB 21 (.pick (oT 17) (oT 20) (.const ob))] [0,1,21] [] (.ite (oT 21) (oX [oA 22 0,oA 23 1,oB 24 (.sidx (oT 23) (oN 0)),oZ 25 dM [oT 22,oT 24],oA 4 25] [4] [5] (.ret)) (.skip)))
 (.keep [0,1] [] (.seq (oX [oA 27 1,oZ 28 un [oT 27],oA 26 28,oB 29 (.ext (oT 26) 0),oB 30 (.ext (oT 26) 1),
 oB 5 (.alloc xK [ob,ob,ob,ob,ob,ob,ob,ob,ob,ob,ob,ob,ob,ob,ob,ob,ob,ob,ob,ob,ob,ob,ob,ob,ob,ob,ob,ob,ob,ob,ob,ob,ob,ob,ob,ob,ob,ob,ob,ob,ob,ob,ob,ob,ob,ob,ob,ob,ob,ob,ob,ob,ob,ob,ob,ob,ob,ob,ob,ob,ob,ob,ob,ob,ob,ob,ob,ob,ob,ob,ob,ob,ob,ob,ob,ob,ob,ob,ob,ob,ob,ob,ob,ob,ob,ob,ob,ob,ob,ob,ob,ob,ob,ob,ob,ob,ob,ob,ob,ob,ob,ob,ob,ob,ob,ob,ob,ob,ob,ob,ob,ob,ob,ob,ob,ob,ob,ob,ob,ob,ob,ob,ob,ob,ob,ob,ob,ob,ob,ob,ob,ob,ob,ob,ob,ob,ob,ob,ob,ob,ob,ob,ob,ob,ob,ob,ob,ob,ob,ob,ob,ob,ob,ob,ob,ob,ob,ob,ob,ob,ob,ob,ob,ob,ob,ob,ob,ob,ob,ob,ob,ob,ob,ob,ob,ob,ob,ob,ob,ob,ob,ob,ob,ob,ob,ob,ob,ob,ob,ob,ob,ob,ob,ob,ob,ob,ob,ob,ob,ob,ob,ob,ob,ob,ob,ob,ob,ob,ob,ob,ob,ob,ob,ob,ob,ob,ob,ob,ob,ob,ob,ob,ob,ob,ob,ob,ob,ob,ob,ob,ob,ob,ob,ob,ob,ob,ob,ob,ob,ob,ob,ob,ob,ob,ob,ob,ob,ob,ob,ob,ob,ob,ob,ob,ob,ob]),
 oF 256 5 29,oA 6 30] [0,1,5,6] [5] (oX [oA 31 6] [0,1,5,31] [5] (.ite (oT 31) (oX [oA 32 0,oZ 33 tm [oT 32,oT 5],oA 4 33] [4] [5] (.ret)) (.skip)))) (.keep [0,1] [] (oX [oA 34 0,oA 35 1,oZ 36 rD [oT 34,oT 35],oA 4 36] [4] [5] (.ret))))))))
def j7:List aI:= [.tmp 4]
def xZ:List Nat:= []
theorem xN:aR Tryz.prog fL xZ kq j7 37:=aA ay (by kernel_rfl)
-- strings_trimLeftByte while id=0: live [0:s, 1:c] changed [0] res []
def gQ:CC:=oX [oB 4 (.mv (oS ⟨#[]⟩))] [0,1] [] (.seq (.block 0 (.loop 1 (.seq (oX [oA 5 0,oB 6 (.slen (oT 5)),oB 7 (.cmp .gtr (oT 6) (oN 0)),oA 8 7,oH 9 8 (.mv (oT 0)),oH 10 8 (.sidx (oT 9) (oN 0)),oH 11 8 (.mv (oT 1)),oH 12 8 (.eql false false [.int] (oT 10) (oT 11)),oB 13 (.pick (oT 8) (oT 12) (.const ob))] [0,1,13] [] (.ite (oT 13) (.skip) (.exit 0)))
 (.keep [0,1] [] (.block 1 (.reg [oA 14 0,oB 15 (.sslice (oT 14) (some (oN 1)) none),oA 0 15])))))) (.keep [0] [] (oX [oA 16 0,oA 4 16] [4] [] (.ret))))
def gL:List aI:= [.tmp 4]
def tb:List Nat:= []
theorem sY:aR Tryz.prog dM tb gQ gL 17:=aA ay (by kernel_rfl)
-- strings_TrimLeft_1: no such function
end Go.Gv

namespace Go.Gv
open Cod (enc dec)
def CI.noCv:CI→Bool
 | .op _ _ (.callv _ _)=> false
 | .op _ _ (.callb _ f _)=> f !=dw
 | _=> true
def CI.fn:CI→List Nat
 | .op _ _ (.call f _)=> [f]
 | .op _ _ (.callb _ f _)=> [f]
 | _=> []
def noCv:CC→Bool
 | .reg l=> l.all CI.noCv
 | .regd pre tl=> pre.all CI.noCv && tl.all CI.noCv
 | .seq a b=> noCv a && noCv b
 | .ite _ a b=> noCv a && noCv b
 | .block _ b=> noCv b
 | .loop _ b=> noCv b
 | .cut _ b=> noCv b
 | .keep _ _ b=> noCv b
 | _=> true
def Gm:List CI→List Nat
 | []=> []
 | x::l=> (if l.any fun y=> iP x y then x.fn else[]) ++Gm l
def iO:CC→List Nat
 | .regd pre _=> Gm (pre.filter CI.real)
 | .seq a b=> iO a++iO b
 | .ite _ a b=> iO a++iO b
 | .block _ b=> iO b
 | .loop _ b=> iO b
 | .cut _ b=> iO b
 | .keep _ _ b=> iO b
 | _=> []
def Zf (z:List PanicEntry→Prop) (P:Program) (S:Nat→Spc):Prop:= ∀f,(f=dw→yC z P (S f).pt)∧(f≠dw→TriZ z P f (S f).pt)
section
variable {z:List PanicEntry→Prop} {P:Program} {S:Nat→Spc}
theorem WG (hS:Zf z P S): ∀x:CI,x.noCv=true→dS P z S x
 | .frz _ _,_=> trivial
 | .op _ _ c,h=> by
   cases c <;> try exact trivial
   ·rename_i f args
    show CallOk P z S (.call f args)
    simp only[CallOk]
    split
    ·exact(hS dw).1 rfl
    ·rename_i e;exact(hS f).2 e
   ·cases h
   ·rename_i r f args
    have h: (f !=dw)=true:=h
    exact(hS f).2 (by simpa using h)
theorem WF {x:CI} (h:x.noCv=true) (hq: ∀f∈x.fn,f≠dw∧Tri P f (S f).pt):dS P JC S x:=by
 cases x with
 | frz _ _=> trivial
 | op d g c=>
   cases c <;> try exact trivial
   ·rename_i f args
    obtain⟨h1,h2⟩:=hq f (by simp[CI.fn])
    show CallOk P JC S (.call f args)
    simp only[CallOk,if_neg h1]
    exact h2.z
   ·cases h
   ·rename_i r f args
    exact((hq f (by simp[CI.fn])).2).z
theorem Ju: ∀l:List CI,(∀x∈l,x.noCv=true)→(∀f∈Gm l,f≠dw∧Tri P f (S f).pt)→QuietL P S l
 | [],_,_=> trivial
 | x::l,h,hq=> by
   refine⟨?_,Ju l (fun y hy=> h y (by simp[hy])) fun f hf=> hq f (by simp[Gm,hf])⟩
   cases hb:l.any fun y=> iP x y with
   | false=>
     left
     intro y hy
     have:=List.any_eq_false.1 hb y hy
     simpa using this
   | true=>
     right
     exact WF (h x (by simp)) fun f hf=> hq f (by simp[Gm,hb,hf])
theorem pL (hS:Zf z P S): ∀cc:CC,noCv cc=true→(∀f∈iO cc,f≠dw∧Tri P f (S f).pt)→CK P z S cc
 | .reg l,h,_=> fun x hx=> WG hS x (List.all_eq_true.1 h x hx)
 | .regd pre tl,h,hq=> by
   simp only[noCv,Bool.and_eq_true] at h
   exact⟨fun x hx=> WG hS x (List.all_eq_true.1 h.1 x hx),fun x hx=> WG hS x (List.all_eq_true.1 h.2 x hx),Ju _ (fun x hx=> List.all_eq_true.1 h.1 x (List.mem_filter.1 hx).1) hq⟩
 | .seq a b,h,hq=> by
   simp only[noCv,Bool.and_eq_true] at h
   exact⟨pL hS a h.1 fun f hf=> hq f (by simp[iO,hf]),pL hS b h.2 fun f hf=> hq f (by simp[iO,hf])⟩
 | .ite _ a b,h,hq=> by
   simp only[noCv,Bool.and_eq_true] at h
   exact⟨pL hS a h.1 fun f hf=> hq f (by simp[iO,hf]),pL hS b h.2 fun f hf=> hq f (by simp[iO,hf])⟩
 | .block _ b,h,hq=> pL hS b h hq
 | .loop _ b,h,hq=> pL hS b h hq
 | .cut _ b,h,hq=> pL hS b h hq
 | .keep _ _ b,h,hq=> pL hS b h hq
 | .skip,_,_=> trivial
 | .exit _,_,_=> trivial
 | .ret,_,_=> trivial
theorem iQ {l:List (Nat×Spc)} (h: ∀p∈l,(p.1=dw→yC z P p.2.pt)∧(p.1≠dw→TriZ z P p.1 p.2.pt)):Zf z P (bU l):=by
 induction l with
 | nil=> exact fun f=> ⟨fun _=> fun _ _ _ _ _ _ _ _ _ _ _ _ _ h=> h.elim,fun _=> (l7 P f).z⟩
 | cons p l ih=>
   obtain⟨g,c⟩:=p
   intro f
   unfold bU
   split
   ·rename_i e
    subst e
    exact h (f,c) (by simp)
   ·exact ih (fun p hp=> h p (by simp[hp])) f
theorem fH: ∀p∈ ([]:List (Nat×Spc)),(p.1=dw→yC z P p.2.pt)∧(p.1≠dw→TriZ z P p.1 p.2.pt):=fun p h=> by cases h
theorem aG {f:Nat} {c:Spc} {l:List (Nat×Spc)} (h:TriZ z P f c.pt) (hf: (f==dw)=false) (hl: ∀p∈l,(p.1=dw→yC z P p.2.pt)∧(p.1≠dw→TriZ z P p.1 p.2.pt)):
 ∀p∈ (f,c)::l,(p.1=dw→yC z P p.2.pt)∧(p.1≠dw→TriZ z P p.1 p.2.pt):=fun p hp=> by
 rcases List.mem_cons.1 hp with rfl | hp
 ·exact⟨fun e=> absurd e (by simpa using hf),fun _=> h⟩
 ·exact hl p hp
theorem OR {c:Spc} {l:List (Nat×Spc)} (h:yC z P c.pt) (hl: ∀p∈l,(p.1=dw→yC z P p.2.pt)∧(p.1≠dw→TriZ z P p.1 p.2.pt)):
 ∀p∈ (dw,c)::l,(p.1=dw→yC z P p.2.pt)∧(p.1≠dw→TriZ z P p.1 p.2.pt):=fun p hp=> by
 rcases List.mem_cons.1 hp with rfl | hp
 ·exact⟨fun _=> h,fun e=> absurd rfl e⟩
 ·exact hl p hp
end
def so (ty:Nat) (f:Int×Int):Value:= .iface ty (.agg #[.int .i64 f.1, .int .i64 f.2])
def zF (ty:Nat) (f:Int×Int):List PanicEntry→Prop:=fun c=> c= [{ v:=so ty f,recovered:=false }]∧f.2≠0
def qcB (ty:Nat) (f:Int×Int):PT:=fun _ ds _ _=> ds= [.v (so ty f)]∧f.2≠0
theorem U0 (ty:Nat) (f:Int×Int):uE (qcB ty f):=fun _ _ _ _ _ _ h=> h
def qah (ty:Nat) (f:Int×Int):Spc:= .gen _ (U0 ty f)
@[simp] theorem qet (ty:Nat) (f:Int×Int) (d:Nat) (a b:Int) (H:ab) (K:D→ab→Prop): (qah ty f).pt d [.v (.iface ty (.agg #[.int .i64 a, .int .i64 b]))] H K=((a,b)=f∧b≠0):=by
 refine propext ⟨fun h=> ?_,fun h=> ?_⟩
 ·obtain⟨h,hne⟩: [D.v (.iface ty (.agg #[.int .i64 a, .int .i64 b]))]= [.v (so ty f)]∧f.2≠0:=h
  simp only[so,List.cons.injEq,D.v.injEq,Value.iface.injEq,Value.agg.injEq,Array.mk.injEq,Value.int.injEq,and_true,true_and] at h
  exact⟨Prod.ext h.1 h.2,by rw[h.2];exact hne⟩
 ·obtain⟨h,hne⟩:=h
  subst h
  exact⟨rfl,hne⟩
theorem La {P:Program} (ty:Nat) (f:Int×Int):yC (zF ty f) P (qah ty f).pt:=by
 intro _ O tp w v e H d K _ _ _ hr h
 obtain⟨h,hne⟩: [e]= [.v (so ty f)]∧f.2≠0:=h
 cases h
 have:=hr.inv_v
 exact⟨⟨_,_,this⟩,by rw[this],hne⟩
theorem RX {P:Program} {g ty:Nat} {A:PT} {a:Int} (h:TriZ (zF ty (a,0)) P g A):Tri P g A:=fun O tp w vs ds H d K h1 h2 h3 h4 h5 h6=>
 ⟨(h O tp w vs ds H d K h1 h2 h3 h4 h5 h6).1,(h O tp w vs ds H d K h1 h2 h3 h4 h5 h6).2.mono fun _ _ h=> h.elim id fun⟨_,_,h,_⟩=> absurd rfl h.2⟩
inductive Out (α:Type) where
 | ok (x:α)
 | err (f:Int×Int)
 | no
def Out.bind {α β:Type} :Out α→(α→Out β)→Out β
 | .ok x,f=> f x
 | .err e,_=> .err e
 | .no,_=> .no
def Out.map {α β:Type} (f:α→β):Out α→Out β
 | .ok x=> .ok (f x)
 | .err e=> .err e
 | .no=> .no
def Out.of {α:Type} :Option α→Out α
 | some x=> .ok x
 | none=> .no
@[simp] theorem Out.bind_ok {α β:Type} (x:α) (f:α→Out β): (Out.ok x).bind f=f x:=rfl
@[simp] theorem Out.bind_err {α β:Type} (e:Int×Int) (f:α→Out β): (Out.err e).bind f= .err e:=rfl
@[simp] theorem Out.bind_no {α β:Type} (f:α→Out β): (Out.no).bind f= .no:=rfl
@[simp] theorem Out.map_ok {α β:Type} (x:α) (f:α→β): (Out.ok x).map f= .ok (f x):=rfl
@[simp] theorem Out.map_err {α β:Type} (e:Int×Int) (f:α→β): (Out.err e).map f= .err e:=rfl
@[simp] theorem Out.map_no {α β:Type} (f:α→β): (Out.no).map f= .no:=rfl
@[simp] theorem Out.of_some {α:Type} (x:α):Out.of (some x)= .ok x:=rfl
@[simp] theorem Out.of_none {α:Type} :Out.of (none:Option α)= .no:=rfl
def Out.fine {α:Type} (f:Int×Int):Out α→Prop
 | .ok _=> True
 | .err e=> e=f
 | .no=> False
@[simp] theorem Out.fine_err {α:Type} (f e:Int×Int): (Out.err e:Out α).fine f=(e=f):=id rfl
theorem Out.fine_ofm {α β:Type} {f:Int×Int} {o:Option α} {k:α→β} (h: ((Out.of o).map k).fine f): ∃x,o=some x:=by
 cases o with
 | some x=> exact⟨x,rfl⟩
 | none=> exact h.elim
theorem Out.fine_bind {α β:Type} {f:Int×Int} {o:Out α} {k:α→Out β} (h: (o.bind k).fine f): (∃x,o= .ok x∧(k x).fine f)∨(o= .err f∧o.bind k= .err f):=by
 cases o with
 | ok x=> exact .inl ⟨x,rfl,h⟩
 | err e=> have h:e=f:=h;subst h;exact .inr ⟨rfl,rfl⟩
 | no=> exact h.elim
def AL {α:Type} (f:Int×Int) (o:Out α) (K:α→Prop):Prop:=match o with
 | .ok x=> K x
 | .err e=> e=f
 | .no=> False
@[simp] theorem qeu {α:Type} (f:Int×Int) (x:α) (K:α→Prop):AL f (.ok x) K=K x:=id rfl
@[simp] theorem qcF {α:Type} (f e:Int×Int) (K:α→Prop):AL f (.err e) K=(e=f):=id rfl
@[congr] theorem qev {α:Type} {f:Int×Int} {o o':Out α} {K:α→Prop} (h:o=o'):AL f o K=AL f o' K:=by subst h;rfl
@[simp] theorem qcE {α β:Type} (f:Int×Int) (o:Out α) (g:α→β) (K:β→Prop):AL f (o.map g) K=AL f o fun x=> K (g x):=by cases o <;> exact id rfl
@[simp] theorem qcH {α β:Type} (o:Option α) (g:α→β) (K:β→Prop):gE (o.map g) K=gE o fun x=> K (g x):=by cases o <;> exact id rfl
theorem Ys {α:Type} {f:Int×Int} {o:Out α} {K:α→Prop} : (o.fine f∧ ∀x,o= .ok x→K x)=AL f o K:=by
 cases o with
 | ok x=> exact propext ⟨fun h=> h.2 x rfl,fun h=> ⟨trivial,fun y e=> by cases e;exact h⟩⟩
 | err e=> exact propext ⟨fun h=> h.1,fun h=> ⟨h,fun y e=> by cases e⟩⟩
 | no=> exact propext ⟨fun h=> h.1,fun h=> ⟨h,fun y e=> by cases e⟩⟩
theorem Out.bind_map {α β γ:Type} (o:Out α) (k:α→Out β) (g:β→γ): (o.bind k).map g=o.bind fun x=> (k x).map g:=by cases o <;> rfl
theorem Out.bind_bind {α β γ:Type} (o:Out α) (k:α→Out β) (g:β→Out γ): (o.bind k).bind g=o.bind fun x=> (k x).bind g:=by cases o <;> rfl
theorem Out.map_bind {α β γ:Type} (o:Out α) (k:α→β) (g:β→Out γ): (o.map k).bind g=o.bind fun x=> g (k x):=by cases o <;> rfl
theorem Out.map_map {α β γ:Type} (o:Out α) (k:α→β) (g:β→γ): (o.map k).map g=o.map fun x=> g (k x):=by cases o <;> rfl
section
variable {α β:Type} {f:Int×Int} {F0:Out β} {K:α→Prop}
theorem kJ {o:Out α} {k:α→Out β} (hf:F0.fine f) (e:F0=o.bind k) (h: ∀x,F0=k x→K x):AL f o K:=by
 cases o with
 | ok x=> exact h x e
 | err g=> subst e;exact hf
 | no=> subst e;exact hf
theorem Gr {o:Out α} {k:α→β} (hf:F0.fine f) (e:F0=o.map k) (h: ∀x,F0= .ok (k x)→K x):AL f o K:=by
 cases o with
 | ok x=> exact h x e
 | err g=> subst e;exact hf
 | no=> subst e;exact hf
theorem Cu {o:Out β} {K:β→Prop} (hf:F0.fine f) (e:F0=o) (h: ∀x,F0= .ok x→K x):AL f o K:=by
 cases o with
 | ok x=> exact h x e
 | err g=> subst e;exact hf
 | no=> subst e;exact hf
theorem oj {o:Option α} {k:α→Out β} (hf:F0.fine f) (e:F0=(Out.of o).bind k) (h: ∀x,F0=k x→K x):gE o K:=by
 cases o with
 | some x=> exact h x e
 | none=> subst e;exact hf
theorem Gs {o:Option α} {k:α→β} (hf:F0.fine f) (e:F0=(Out.of o).map k) (h: ∀x,F0= .ok (k x)→K x):gE o K:=by
 cases o with
 | some x=> exact h x e
 | none=> subst e;exact hf
end
section
variable {X Y Z:Type} {P:Program} {S:Nat→Spc} {f:Nat} {im:List Nat} {cc:CC} {rs:List aI} {N:Nat}
theorem MG {z:List PanicEntry→Prop} {B:uH X} {A:ix Z} {er:Y→D} {pre:X→Z→Prop} {post:X→Z→X→Y→Prop} (h1i:0∉B.ids) (hS:CK P z S cc) (h:aR P f im cc rs N) (hN: ∀z,(A.view z).length+1≤N) (hw:WY cc rs S B A er pre post):TriZ z P f (qdG B A er pre post).pt:=by
 obtain⟨EZ,enter,fn,code,h1,h2,h3,h4,h5⟩:=h
 refine FG hS EZ h1 h2 enter h3 h4 h5 ?_
 rintro ds H d K ⟨id,b,x,z,ds',rfl,hd,hid,hhp,hni,hp,hK⟩
 have hl:=A.le ds' z hd
 have h0: ∀i r,au (gG (B.hp x) cF) 0 (some (.box b (B.ce x))) i=some r→i=0∧r= .box b (B.ce x)∨i≠0∧(i,r) ∈B.hp x:=by
  intro i r h
  by_cases e:i=0
  ·subst e
   simp only[au,if_true] at h
   cases h
   exact .inl ⟨rfl,rfl⟩
  ·simp only[au,e,if_false] at h
   exact .inr ⟨e,BG h⟩
 have hk: ∀ {x:X} {i:Nat} {r:Res},(i,r) ∈B.hp x→i∈B.ids:=by
  intro x i r h
  rw[←B.keys x]
  exact List.mem_map.2 ⟨_,h,rfl⟩
 refine⟨by simp only[List.length_cons];rw[hl.1];exact hN z, .bptr 0 b 0::A.view z,au (gG (B.hp x) cF) 0 (some (.box b (B.ce x))),fun i=> if i=0 then id else i, .cons (.bptr _ _ _ _) hl,fun i r h=> ?_,fun i j r s h h' e=> ?_,_,hw b x z hp,?_⟩
 ·rcases h0 i r h with⟨rfl,rfl⟩ | ⟨e,hm⟩
  ·exact hid
  ·simp only[e,if_false]
   exact hhp _ hm
 ·rcases h0 i r h with⟨rfl,rfl⟩ | ⟨e1,hm⟩
  ·rcases h0 j s h' with⟨rfl,rfl⟩ | ⟨e2,hm2⟩
   ·rfl
   ·simp only[e2,if_true,if_false] at e
    subst e
    exact absurd (hk hm2) hni
  ·rcases h0 j s h' with⟨rfl,rfl⟩ | ⟨e2,hm2⟩
   ·simp only[e1,if_true,if_false] at e
    subst e
    exact absurd (hk hm) hni
   ·simpa only[e1,e2,if_false] using e
 ·rintro r H' ⟨x',y,hfr,hj,hhp',hpost⟩
  refine⟨er y,fun i=> if i=0∨i∈B.ids then none else H' i,au (gG (B.hp x') H) id (some (.box b (B.ce x'))),fun i=> if i=id then some 0 else if i∈B.ids then some i else none,hfr,fun j q h=> ?_,hK x' y hpost,fun i s hi=> ?_,fun i j' k s q hi hj' e1 e2=> ?_⟩
  ·by_cases e:j=0∨j∈B.ids
   ·simp[e] at h
   ·simp only[e,if_false] at h
    refine⟨h,fun i hh=> e ?_⟩
    by_cases e1:i=id
    ·simp only[e1,if_true] at hh
     cases hh
     exact .inl rfl
    ·simp only[e1,if_false] at hh
     by_cases e2:i∈B.ids
     ·simp only[e2,if_true] at hh
      cases hh
      exact .inr e2
     ·simp[e2] at hh
  ·by_cases e:i=id
   ·subst e
    simp only[au,if_true] at hi
    cases hi
    simpa using hj
   ·simp only[au,e,if_false] at hi ⊢
    by_cases e2:i∈B.ids
    ·simp only[e2,if_true]
     exact hhp' _ (BH (by rw[B.keys];exact e2) hi)
    ·simp only[e2,if_false]
     rw[BF (by rw[B.keys];exact e2)] at hi
     refine⟨hi,fun k q h he=> ?_⟩
     rcases h0 k q h with⟨rfl,rfl⟩ | ⟨e3,hm⟩
     ·simp only[if_true] at he
      exact e he.symm
     ·simp only[e3,if_false] at he
      subst he
      exact e2 (hk hm)
  ·by_cases c1:i=id
   ·by_cases c2:j'=id
    ·exact c1.trans c2.symm
    ·simp only[c1,if_true] at e1
     cases e1
     simp only[c2,if_false] at e2
     by_cases c3:j'∈B.ids
     ·simp only[c3,if_true] at e2
      cases e2
      exact absurd c3 h1i
     ·simp[c3] at e2
   ·simp only[c1,if_false] at e1
    by_cases c3:i∈B.ids
    ·simp only[c3,if_true] at e1
     cases e1
     by_cases c2:j'=id
     ·simp only[c2,if_true] at e2
      cases e2
      exact absurd c3 h1i
     ·simp only[c2,if_false] at e2
      by_cases c4:j'∈B.ids
      ·simp only[c4,if_true] at e2
       cases e2
       rfl
      ·simp[c4] at e2
    ·simp[c3] at e1
end
section
variable {Y Z:Type}
def AE (A:ix Z) (er:Y→D) (f:Int×Int) (F:Rdr→Z→Out (Rdr×Y)):Spc:=qeg A er (fun s z=> (F s z).fine f) (fun s z s' y=> F s z= .ok (s',y))
def R7 (er:Y→D) (f:Int×Int) (F:Rdr→Z→Out (Rdr×Y)) (id b:Nat) (r:Option Res) (o:Option Z) (H:ab) (K:D→ab→Prop):Prop:=
 ∃x,r=some (.box b (cW x))∧gE o fun z=> AL f (F x z) fun q=> K (er q.2) (au H id (some (.box b (cW q.1))))
@[congr] theorem qee {er:Y→D} {f:Int×Int} {F:Rdr→Z→Out (Rdr×Y)} {id b:Nat} {r r':Option Res} {o o':Option Z} {H:ab} {K:D→ab→Prop} (h1:r=r') (h2:o=o'):R7 er f F id b r o H K=R7 er f F id b r' o' H K:=by subst h1;subst h2;rfl
@[simp] theorem UL (A:ix Z) (er:Y→D) (f:Int×Int) (F:Rdr→Z→Out (Rdr×Y)) (d i b:Nat) (ds:List D) (H:ab) (K:D→ab→Prop): (AE A er f F).pt d (.bptr i b 0::ds) H K=R7 er f F i b (H i) (A.dec ds) H K:=by
 unfold AE R7
 rw[UN]
 unfold qgg
 refine propext (exists_congr fun x=> and_congr_right fun _=> ?_)
 cases A.dec ds with
 | none=> exact Iff.rfl
 | some z=>
   show((F x z).fine f∧ ∀x' y,F x z= .ok (x',y)→_) ↔AL f (F x z) _
   rw[←Ys]
   exact and_congr_right fun _=> ⟨fun h q e=> h q.1 q.2 e,fun h x' y e=> h (x',y) e⟩
@[simp] theorem qgf (er:Y→D) (f:Int×Int) (F:Rdr→Z→Out (Rdr×Y)) (id b:Nat) (l:B) (p dp:Int) (e:B) (g:Int) (o:Option Z) (H:ab) (K:D→ab→Prop):
 R7 er f F id b (some (.box b [.v (.string l), .v (.int .i64 p), .v (.int .i64 dp), .v (.string e), .v (.int .i64 g)])) o H K=gE o fun z=> AL f (F ⟨l,p,dp,e,g⟩ z) fun q=> K (er q.2) (au H id (some (.box b (cW q.1)))):=by
 refine propext ⟨fun⟨x,h1,h2⟩=> ?_,fun h=> ⟨⟨l,p,dp,e,g⟩,rfl,h⟩⟩
 have e1:cW ⟨l,p,dp,e,g⟩=cW x:=by
  have:=Option.some.inj h1
  exact(Res.box.inj this).2
 have:=Du e1
 subst this
 exact h2
theorem QX {X:Type} {ce:X→List D} (hce: ∀x y,ce x=ce y→x=y) {A:ix Z} {er:Y→D} {pre:X→Z→Prop} {post:X→Z→X→Y→Prop} {id b:Nat} {ds:List D} :qbt id (qdG (yo ce) A er pre post).pt (.bptr id b 0::ds):=by
 refine⟨fun r=> ∃x z,A.dec ds=some z∧r=some (.box b (ce x))∧pre x z,fun r d u=> ∃x z x' y,A.dec ds=some z∧r=some (.box b (ce x))∧post x z x' y∧d=er y∧u= .box b (ce x'),fun t H K=> ⟨?_,?_⟩⟩
 ·rintro⟨id',b',x,z,ds',h1,h2,h3,h4,h5,h6,h7⟩
  cases h1
  refine⟨⟨x,z,h2,h3,h6⟩,fun d u ⟨x2,z2,x',y,e1,e2,e3,e4,e5⟩=> ?_⟩
  rw[h2] at e1
  cases e1
  have h3:H id=some (.box b (ce x)):=h3
  rw[h3] at e2
  have:=hce _ _ (Res.box.inj (Option.some.inj e2)).2
  subst this
  subst e4;subst e5
  exact h7 _ _ e3
 ·rintro⟨⟨x,z,h2,h3,h6⟩,h7⟩
  exact⟨id,b,x,z,ds,rfl,h2,h3,fun p hp=> by simp[yo] at hp,by simp[yo],h6,fun x' y hp=> h7 _ _ ⟨x,z,x',y,h2,h3,hp,rfl,rfl⟩⟩
@[simp] theorem qcx (A:ix Z) (er:Y→D) (f:Int×Int) (F:Rdr→Z→Out (Rdr×Y)) (i b:Nat) (dst:Option Nat) (ds:List D) (H:ab) (K:D→ab→Prop):Gn i dst (AE A er f F) (.bptr i b 0::ds) H K=R7 er f F i b (H i) (A.dec ds) H K:=by
 rw[←UL A er f F (dst.getD 0)]
 exact propext ⟨fun h=> h.2,fun h=> ⟨QX fun _ _ e=> Du e,h⟩⟩
abbrev fj (cc:CC) (rs:List aI) (S:Nat→Spc) (A:ix Z) (er:Y→D) (f:Int×Int) (F:Rdr→Z→Out (Rdr×Y)):Prop:=sA cc rs S A er (fun s z=> (F s z).fine f) (fun s z s' y=> F s z= .ok (s',y))
variable {P:Program} {S:Nat→Spc} {g:Nat} {im:List Nat} {cc:CC} {rs:List aI} {N:Nat}
theorem bH {ty:Nat} {A:ix Z} {er:Y→D} {f:Int×Int} {F:Rdr→Z→Out (Rdr×Y)} (hS:Zf (zF ty f) P S) (h:aR P g im cc rs N) (hN: ∀z,(A.view z).length+1≤N) (hcv:noCv cc=true) (hq: ∀f∈iO cc,f≠dw∧Tri P f (S f).pt)
 (hw:fj cc rs S A er f F):TriZ (zF ty f) P g (AE A er f F).pt:=MG (by simp[Zn,yo]) (pL hS cc hcv hq) h hN fun b x z hp=> hw b x z hp
end
end Go.Gv

namespace Go.Gv
def cG (s:Rdr) (t:B):Out (Rdr×Bool):= .of (pF s t)
def fV (s:Rdr):Out Rdr:= .of (yy s)
def d4:Rdr→List B→Out Rdr
 | s, []=> .ok s
 | s,t::l=> if cO s t then(fV s).bind fun x=> d4 x l else .err (s.pos,3)
def dY (s:Rdr) (k:Int):Out (Rdr×B):=if s.kind=k then(fV s).map fun x=> (x,s.text) else .err (s.pos,3)
def xc (s:Rdr):Out (Rdr×B):=(d4 s [⟨#[44]⟩]).bind fun x=> dY x 2
def A1 (most:Int):List UInt8→Int→Int
 | [],n=> n
 | c::l,n=> if n≤most then A1 most l (10*n+ ((c.toNat:Int) -48)) else n
def Id (c:U8):Bool:=decide (c.val=48)
def lM (t:B):B:=t.extract (o5 Id t 0) t.size
def Sr (most:Int) (t:B):Int:=A1 most (lM t).data.toList 0
def numberE (s:Rdr) (most a:Int):Out (Rdr×Int):=(dY s 3).bind fun r=>
 if qH r.2=true∧most≤1000000 then(if most < Sr most r.2 then .err (a,8) else .ok (r.1,Sr most r.2)) else .no
def bigE (s:Rdr):Out (Rdr×Int):=numberE s 100000 s.pos
def signedE (s:Rdr):Out (Rdr×Int):=(cG s ⟨#[45]⟩).bind fun w=> if w.2 then(bigE w.1).map fun n=> (n.1, -n.2) else bigE w.1
section
variable (N:Rdr→Out (Rdr×Cond)) (O:Rdr→Out (Rdr×Cond))
def rh:Nat→Rdr→List Cond→Out (Rdr×List Cond)
 | 0,_,_=> .no
 | k+1,s,acc=> (cG s ⟨#[38]⟩).bind fun w=> if w.2 then(N w.1).bind fun r=> rh k r.1 (acc++ [r.2]) else .ok (w.1,acc)
def andE (s:Rdr):Out (Rdr×Cond):=(N s).bind fun r=> (rh N 500 r.1 [r.2]).map fun q=> (q.1,Ti 7 q.2)
def t3:Nat→Rdr→List Cond→Out (Rdr×List Cond)
 | 0,_,_=> .no
 | k+1,s,acc=> (cG s ⟨#[124]⟩).bind fun w=> if w.2 then(andE N w.1).bind fun r=> t3 k r.1 (acc++ [r.2]) else .ok (w.1,acc)
def orE (s:Rdr):Out (Rdr×Cond):=(andE N s).bind fun r=> (t3 N 500 r.1 [r.2]).map fun q=> (q.1,Ti 8 q.2)
def vw (s:Rdr) (name:B):Out (Rdr×Cond):=(dY s 4).bind fun v=> (cG v.1 ⟨#[37,99]⟩).map fun w=> (w.1,⟨2,name,E0,v.2,E0,w.2, []⟩)
def EY (s:Rdr):Out (Rdr×Cond):=(dY s 2).bind fun n=> (cG n.1 ⟨#[44]⟩).bind fun c=>
 if c.2 then(dY c.1 2).bind fun a=> (d4 a.1 [⟨#[61]⟩]).bind fun u=> (dY u 4).bind fun v=> (d4 v.1 [⟨#[41]⟩]).map fun z=> (z,⟨5,n.2,a.2,v.2,E0,false, []⟩)
 else(d4 c.1 [⟨#[41]⟩]).map fun z=> (z,⟨5,n.2,E0,E0,E0,false, []⟩)
def Oj (s:Rdr) (name:B):Out (Rdr×Cond):=
 if fU s [⟨#[99,111,110,116,97,105,110,115]⟩] then(fV s).bind fun x=> (dY x 4).map fun v=> (v.1,⟨3,name,E0,v.2,E0,false, []⟩) else
 (cG s ⟨#[33,61]⟩).bind fun w=> if w.2 then(vw w.1 name).map fun v=> (v.1,⟨6,E0,E0,E0,E0,false, [v.2]⟩) else
 (d4 w.1 [⟨#[61]⟩]).bind fun u=> if u.kind=2 then(dY u 2).bind fun l=> (d4 l.1 [⟨#[46]⟩]).bind fun d=> (dY d 2).map fun a=> (a.1,⟨4,name,a.2,E0,l.2,false, []⟩)
 else vw u name
def atomsE (s:Rdr):Out (Rdr×Cond):=(dY s 2).bind fun n=> if n.2=⟨#[105,110]⟩ then(cG n.1 ⟨#[40]⟩).bind fun v=> if v.2 then EY v.1 else Oj v.1 n.2 else Oj n.1 n.2
def notE (s:Rdr):Out (Rdr×Cond):=(cG s ⟨#[33]⟩).bind fun w=> if w.2 then(N w.1).map fun r=> (r.1,⟨6,E0,E0,E0,E0,false, [r.2]⟩) else
 (cG w.1 ⟨#[40]⟩).bind fun u=> if u.2 then(O u.1).bind fun x=> (d4 x.1 [⟨#[41]⟩]).map fun z=> (z,x.2) else atomsE u.1
end
def kK:Nat→Rdr→Out (Rdr×Cond)
 | 0=> fun _=> .no
 | n+1=> notE (kK n) (orE (kK n))
section
variable (A:Rdr→Bool→Out (Rdr×Pat)) (O:Rdr→Out (Rdr×Cond))
def tokenE (s:Rdr) (label:B):Out (Rdr×Pat):=(cG s ⟨#[91]⟩).bind fun u=> if u.2 then
 (if cO u.1 ⟨#[93]⟩ then(d4 u.1 [⟨#[93]⟩]).map fun z=> (z,⟨1,⟨1,E0,E0,E0,E0,false, []⟩,label,E0,0,0, []⟩)
 else(O u.1).bind fun x=> (d4 x.1 [⟨#[93]⟩]).map fun z=> (z,⟨1,x.2,label,E0,0,0, []⟩))
 else(vw u.1 E0).map fun v=> (v.1,⟨1,v.2,label,E0,0,0, []⟩)
def BC (s:Rdr) (op:Int):Out (Rdr×Pat):=(dY s 2).bind fun n=> (d4 n.1 [⟨#[62]⟩]).map fun z=> (z,⟨op,Cond0,E0,n.2,0,0, []⟩)
def itemE (s:Rdr):Out (Rdr×Pat):=
 (cG s ⟨#[60]⟩).bind fun b=> if b.2 then BC b.1 2 else(cG b.1 ⟨#[60,47]⟩).bind fun c=> if c.2 then BC c.1 3 else
 (cG c.1 ⟨#[40]⟩).bind fun d=> if d.2 then(A d.1 true).bind fun q=> (d4 q.1 [⟨#[41]⟩]).map fun w=> (w,q.2) else
 if d.1.kind=2 then(dY d.1 2).bind fun n=> (d4 n.1 [⟨#[58]⟩]).bind fun u=> tokenE O u n.2 else tokenE O d.1 E0
def Qb (s:Rdr) (a:Int):Out (Rdr×Option (Int×Int)):=(numberE s 16 a).bind fun lo=> (cG lo.1 ⟨#[44]⟩).bind fun c=>
 if c.2 then(if cO c.1 ⟨#[125]⟩ then(d4 c.1 [⟨#[125]⟩]).map fun z=> (z,some (lo.2, -1))
  else(numberE c.1 16 a).bind fun hi=> if hi.2 < lo.2 then .err (a,8) else(d4 hi.1 [⟨#[125]⟩]).map fun z=> (z,some (lo.2,hi.2)))
 else(d4 c.1 [⟨#[125]⟩]).map fun z=> (z,some (lo.2,lo.2))
def X9 (s:Rdr):Out (Rdr×Option (Int×Int)):=(cG s ⟨#[63]⟩).bind fun w=> if w.2 then .ok (w.1,some (0,1)) else
 (cG w.1 ⟨#[42]⟩).bind fun w=> if w.2 then .ok (w.1,some (0, -1)) else
 (cG w.1 ⟨#[43]⟩).bind fun w=> if w.2 then .ok (w.1,some (1, -1)) else
 (cG w.1 ⟨#[123]⟩).bind fun w=> if w.2 then Qb w.1 s.pos else .ok (w.1,none)
def qw:Nat→Rdr→Pat→Out (Rdr×Pat)
 | 0,_,_=> .no
 | k+1,s,x=> (X9 s).bind fun r=> match r.2 with
   | none=> .ok (r.1,x)
   | some m=> qw k r.1 ⟨6,Cond0,E0,E0,m.1,m.2, [x]⟩
def repE (s:Rdr):Out (Rdr×Pat):=(itemE A O s).bind fun r=> qw 500 r.1 r.2
def pX (i:Bool):Nat→Rdr→List Pat→Out (Rdr×List Pat)
 | 0,_,_=> .no
 | k+1,s,acc=> (Out.of (uD s i)).bind fun b=> if b then(repE A O s).bind fun r=> pX i k r.1 (acc++ [r.2]) else .ok (s,acc)
def seqE (s:Rdr) (i:Bool):Out (Rdr×Pat):=(repE A O s).bind fun r=> (pX A O i 500 r.1 [r.2]).map fun q=> (q.1,sX 4 q.2)
def ri (i:Bool):Nat→Rdr→List Pat→Out (Rdr×List Pat)
 | 0,_,_=> .no
 | k+1,s,acc=> (cG s ⟨#[124]⟩).bind fun w=> if w.2 then(seqE A O w.1 i).bind fun r=> ri i k r.1 (acc++ [r.2]) else .ok (w.1,acc)
def altE (s:Rdr) (i:Bool):Out (Rdr×Pat):=(seqE A O s i).bind fun r=> (ri A O i 500 r.1 [r.2]).map fun q=> (q.1,sX 5 q.2)
end
def rQ:Nat→Rdr→Bool→Out (Rdr×Pat)
 | 0=> fun _ _=> .no
 | n+1=> altE (rQ n) (orE (kK (n+1)))
section
variable (N:Rdr→Out (Rdr×Glob)) (O:Rdr→Out (Rdr×Glob))
def nH:Nat→Rdr→List Glob→Out (Rdr×List Glob)
 | 0,_,_=> .no
 | k+1,s,acc=> (cG s ⟨#[38]⟩).bind fun w=> if w.2 then(N w.1).bind fun r=> nH k r.1 (acc++ [r.2]) else .ok (w.1,acc)
def gandE (s:Rdr):Out (Rdr×Glob):=(N s).bind fun r=> (nH N 500 r.1 [r.2]).map fun q=> (q.1,SO 12 q.2)
def qA:Nat→Rdr→List Glob→Out (Rdr×List Glob)
 | 0,_,_=> .no
 | k+1,s,acc=> (cG s ⟨#[124]⟩).bind fun w=> if w.2 then(gandE N w.1).bind fun r=> qA k r.1 (acc++ [r.2]) else .ok (w.1,acc)
def gorE (s:Rdr):Out (Rdr×Glob):=(gandE N s).bind fun r=> (qA N 500 r.1 [r.2]).map fun q=> (q.1,SO 13 q.2)
def nT:Nat→Rdr→List B→Out (Rdr×List B)
 | 0,_,_=> .no
 | k+1,s,acc=> (cG s ⟨#[44]⟩).bind fun w=> if w.2 then(dY w.1 4).bind fun r=> nT k r.1 (acc++ [r.2]) else .ok (w.1,acc)
def argsE (s:Rdr) (op:Int) (a:B):Out (Rdr×Glob):=
 if op=1 then .ok (s,⟨op,a,E0,E0,E0,E0,false,0,0, [], []⟩)
 else if op=10 then(d4 s [⟨#[44]⟩]).bind fun u=> (bigE u).bind fun lo=> (d4 lo.1 [⟨#[44]⟩]).bind fun v=> (bigE v).map fun hi=> (hi.1,⟨op,a,E0,E0,E0,E0,false,lo.2,hi.2, [], []⟩)
 else(xc s).bind fun b=>
  if op=4 then(d4 b.1 [⟨#[44]⟩]).bind fun u=> (signedE u).bind fun lo=> (d4 lo.1 [⟨#[44]⟩]).bind fun v=> (signedE v).map fun hi=> (hi.1,⟨op,a,b.2,E0,E0,E0,false,lo.2,hi.2, [], []⟩)
  else if op=5∨op=9 then(xc b.1).map fun n=> (n.1,⟨op,a,b.2,n.2,E0,E0,false,0,0, [], []⟩)
  else if op=8 then(nT 500 b.1 []).map fun l=> (l.1,⟨op,a,b.2,E0,E0,E0,false,0,0,l.2, []⟩)
  else .ok (b.1,⟨op,a,b.2,E0,E0,E0,false,0,0, [], []⟩)
def Hw (s:Rdr) (name:B):Out (Rdr×Glob):=(d4 s [⟨#[46]⟩]).bind fun d=> (dY d 2).bind fun n=> (d4 n.1 [⟨#[61]⟩]).bind fun u=>
 if u.kind=2 then(dY u 2).bind fun b=> (d4 b.1 [⟨#[46]⟩]).bind fun v=> (dY v 2).map fun g=> (g.1,⟨3,name,b.2,n.2,g.2,E0,false,0,0, [], []⟩)
 else(dY u 4).bind fun v=> (cG v.1 ⟨#[37,99]⟩).map fun f=> (f.1,⟨2,name,E0,n.2,E0,v.2,f.2,0,0, [], []⟩)
def gatomsE (s:Rdr):Out (Rdr×Glob):=(dY s 2).bind fun n=> if 0 < sm n.2 then(cG n.1 ⟨#[40]⟩).bind fun v=>
 if v.2 then(dY v.1 2).bind fun a=> (argsE a.1 (sm n.2) a.2).bind fun g=> (d4 g.1 [⟨#[41]⟩]).map fun z=> (z,g.2) else Hw v.1 n.2
 else Hw n.1 n.2
def gnotE (s:Rdr):Out (Rdr×Glob):=(cG s ⟨#[33]⟩).bind fun w=> if w.2 then(N w.1).map fun r=> (r.1,⟨11,E0,E0,E0,E0,E0,false,0,0, [], [r.2]⟩) else
 (cG w.1 ⟨#[40]⟩).bind fun u=> if u.2 then(O u.1).bind fun x=> (d4 x.1 [⟨#[41]⟩]).map fun z=> (z,x.2) else gatomsE u.1
end
def nG:Nat→Rdr→Out (Rdr×Glob)
 | 0=> fun _=> .no
 | n+1=> gnotE (nG n) (gorE (nG n))
def fw (l:List B) (w:B):Int:=wW l fun z=> decide (w=z)
def Q3 (s:Rdr):Out (Rdr×jT):=(cG s ⟨#[33]⟩).bind fun w=>
 if w.1.kind≠2∨fw filterL w.1.text < 1 then .err (w.1.pos,3) else(fV w.1).bind fun x=> (dY x 2).map fun n=> (n.1,⟨fw filterL w.1.text,w.2,n.2⟩)
def gN:Nat→Rdr→List jT→Out (Rdr×List jT)
 | 0,_,_=> .no
 | k+1,s,acc=> if cO s ⟨#[33]⟩ || fU s filterL then(Q3 s).bind fun f=> gN k f.1 (acc++ [f.2]) else .ok (s,acc)
def pS:B:=⟨#[115,116,114,97,116,101,103,121]⟩
def vG (s:Rdr):Out (Rdr×Int):=if fU s [pS] then(fV s).bind fun x=> if fU x dc then(dY x 2).map fun n=> (n.1,fw dc n.2) else .err (x.pos,3) else .ok (s,0)
def queryE (n:Nat) (s:Rdr):Out (Rdr×Qry):=(fV s).bind fun s=> (rQ n s false).bind fun p=> (cG p.1 ⟨#[58,58]⟩).bind fun c=>
 (if c.2 then gorE (nG n) c.1 else .ok (c.1,fP)).bind fun g=> (gN 500 g.1 []).bind fun f=> (vG f.1).bind fun z=>
 if z.1.kind=0 then .ok (z.1,⟨p.2,g.2,f.2,z.2⟩) else .err (z.1.pos,3)
end Go.Gv

namespace Go.Gv
open Cod (enc dec)
variable {S S0:Nat→Spc} {f:Int×Int}
abbrev s_trimLeftByte:Spc:=dG (a2 B U8) (fun x=> x.2.val=48) (enc (X:=B)) fun x y=> y=lM x.1
theorem tz:Walk gQ gL S (a2 B U8) (fun x=> x.2.val=48) (enc (X:=B)) fun x y=> y=lM x.1:=by
 rintro⟨s,⟨c⟩⟩ hc
 simp only at hc
 subst hc
 simp[gQ,gL]
 refine cy (X:=Nat) [1] [] (fun k=> k≤s.size∧o5 Id s k=o5 Id s 0) (fun k=> [(0,enc (s.extract k s.size))]) (fun _=> []) (fun k=> s.size -k) 0 ⟨by omega,rfl⟩ (by simp) (by simp) ?_
 rintro k ⟨hk,hq⟩
 simp
 refine fun _=> ⟨fun hlt=> ⟨hlt,fun c hc=> ?_⟩,fun hge=> ?_⟩
 ·have hc:s.data[k]?=some c:=by
   rw[Array.getElem?_extract] at hc
   split at hc
   ·simpa using hc
   ·cases hc
  refine⟨fun h48=> ⟨by omega,k+1,⟨by omega,?_⟩,?_,by omega⟩,fun h48=> ?_⟩
  ·rw[←hq,xm hc,if_pos (by simp[Id,h48])]
  ·rw[ByteArray.extract_extract]
   congr 1 <;> omega
  ·have:o5 Id s k=k:=by rw[xm hc,if_neg (by simp[Id];exact h48)]
   rw[lM,←hq,this]
 ·rw[lM,←hq,MV (by omega)]
abbrev s_trimLeft:Spc:=dG (a2 B B) (fun x=> x.2=⟨#[48]⟩) (enc (X:=B)) fun x y=> y=lM x.1
theorem yE (h1:S dM=s_trimLeftByte):Walk kq j7 S (a2 B B) (fun x=> x.2=⟨#[48]⟩) (enc (X:=B)) fun x y=> y=lM x.1:=by
 rintro⟨s,t⟩ ht
 simp only at ht
 subst ht
 have e1: (⟨#[48]⟩:B).size=1:=rfl
 simp[kq,j7,h1,e1]
 refine fun h=> ?_
 subst h
 rfl
abbrev B5 (f:Int×Int):Spc:=qah aB f
abbrev Ou (s:Rdr) (_:Unit):Out (Rdr×Unit):= .err (s.pos,3)
abbrev qa (f:Int×Int):Spc:=AE a0 Tx f Ou
theorem RM (hp:S dw=B5 f):fj iJ iD S a0 Tx f Ou:=by
 rintro b s ⟨⟩ h
 have h: ((s.pos,3):Int×Int)=f:=h
 simp[iJ,iD,hp]
 exact h
@[simp] abbrev Mg (s:Rdr) (l:List B):Out (Rdr×Unit):=(d4 s l).map fun x=> (x,())
abbrev eZ (f:Int×Int):Spc:=AE (a1 (List B)) Tx f Mg
theorem TT (h1:S ae=bN) (h2:S bc=qa f):fj jw i3 S (a1 (List B)) Tx f Mg:=by
 rintro b s l hr
 simp[jw,i3]
 intro _
 refine aO (X:=Rdr) [0,6] [] l.length (fun k x=> d4 s l=d4 x (l.drop k)) (fun _=> []) (fun x=> [(0, .box b (cW x))]) s (by simp) (by simp) (by omega) (by simp) (by simp) (by simp) (by simp) (by simp) ?_ ?_
 ·rintro k x hk hP
  obtain⟨t,ht⟩:=cP hk
  obtain⟨_,hgt⟩:=List.getElem?_eq_some_iff.1 ht
  rw[List.drop_eq_getElem_cons hk,hgt,d4] at hP
  have hr0:=hr
  rw[Mg,hP] at hr
  by_cases hsg:cO x t
  ·rw[if_pos hsg] at hr hP
   have hr': (((fV x).bind fun x=> d4 x (List.drop (k+1) l)).map fun x=> (x,())).fine f:=hr
   cases hn:yy x with
   | none=> rw[fV,hn] at hr';exact hr'.elim
   | some x1=>
     rw[fV,hn] at hP
     have htk:pF x t=some (x1,true):=by simp[pF,hsg,hn]
     simp[h1,h2,hk,ht,hgt,htk]
     exact⟨x1,hP, .inl ⟨rfl,rfl,rfl,rfl,rfl⟩⟩
  ·rw[if_neg hsg] at hr hP
   have htk:pF x t=some (x,false):=by simp[pF,hsg]
   simp[h1,h2,hk,ht,hgt,htk]
   exact hr
 ·rintro x hP
  have hP:d4 s l= .ok x:=by simpa [d4] using hP
  simp
  exact gT x () (.same _) (by simp) (by show(d4 s l).map _=_;rw[hP];rfl)
@[simp] abbrev Fd (s:Rdr) (k:Int):Out (Rdr×B):=dY s k
abbrev jK (f:Int×Int):Spc:=AE (a1 Int) (enc (X:=B)) f Fd
theorem TR (h1:S a5=pI) (h2:S bc=qa f):fj gw gc S (a1 Int) (enc (X:=B)) f Fd:=by
 rintro b s k hr
 by_cases hk:s.kind=k
 ·subst hk
  simp only[Fd,dY,if_true,fV] at hr
  obtain⟨x,hx⟩:=Out.fine_ofm hr
  simp[gw,gc,h1,hx]
  exact V0 x (by simp) (by simp[dY,fV,hx])
 ·have hr: ((s.pos,3):Int×Int)=f:=by simpa only[Fd,dY,if_neg hk,Out.fine_err] using hr
  simp[gw,gc,h1,h2,hk]
  exact hr
@[simp] abbrev Mf (s:Rdr) (_:Unit):Out (Rdr×B):=dY s 2
abbrev mg (f:Int×Int):Spc:=AE a0 (enc (X:=B)) f Mf
theorem TS (h1:S aJ=jK f):fj gy ge S a0 (enc (X:=B)) f Mf:=by
 rintro b s ⟨⟩ hr
 simp only[Mf] at hr
 cases h:dY s 2 with
 | no=> rw[h] at hr;exact hr.elim
 | err e=>
   rw[h] at hr
   simp[gy,ge,h1,h]
   exact hr
 | ok q=>
   simp[gy,ge,h1,h]
   exact V0 q.1 (by simp) rfl
@[simp] abbrev Ib (s:Rdr) (_:Unit):Out (Rdr×B):=xc s
abbrev F7 (f:Int×Int):Spc:=AE a0 (enc (X:=B)) f Ib
theorem RQ (h1:S ak=eZ f) (h2:S az=mg f):fj eb d8 S a0 (enc (X:=B)) f Ib:=by
 rintro b s ⟨⟩ hr
 have hr0:=hr
 simp only[Ib,xc] at hr
 rcases Out.fine_bind hr with⟨x,hx,hr⟩ | ⟨hx, -⟩
 ·rcases hq:dY x 2 with q | e | _
  ·simp[eb,d8,h1,h2,hx,hq]
   exact V0 q.1 (by simp) (by simp[xc,hx,hq])
  ·rw[hq] at hr
   simp[eb,d8,h1,h2,hx,hq]
   exact hr
  ·rw[hq] at hr;exact hr.elim
 ·simp[eb,d8,h1,hx]
end Go.Gv

namespace Go.Gv
open Cod (enc dec)
variable {S S0:Nat→Spc} {f:Int×Int}
@[simp] abbrev Qn (N:Rdr→Out (Rdr×Cond)) (s:Rdr) (_:Unit):Out (Rdr×Cond):=N s
abbrev za (f:Int×Int) (N:Rdr→Out (Rdr×Cond)):Spc:=AE a0 (enc (X:=Cond)) f (Qn N)
@[simp] abbrev Xv (N:Rdr→Out (Rdr×Cond)) (s:Rdr) (_:Unit):Out (Rdr×Cond):=andE N s
abbrev Ph (f:Int×Int) (N:Rdr→Out (Rdr×Cond)):Spc:=AE a0 (enc (X:=Cond)) f (Xv N)
@[simp] abbrev ZN (N:Rdr→Out (Rdr×Cond)) (s:Rdr) (_:Unit):Out (Rdr×Cond):=orE N s
abbrev QG (f:Int×Int) (N:Rdr→Out (Rdr×Cond)):Spc:=AE a0 (enc (X:=Cond)) f (ZN N)
theorem XY (N:Rdr→Out (Rdr×Cond)) (h1:S ae=bN) (h2:S bK=za f N) (h3:S fq=Ay):
 fj kE km S a0 (enc (X:=Cond)) f (Xv N):=by
 rintro b s ⟨⟩ hf
 have hf: (andE N s).fine f:=hf
 have e:=andE.eq_1 N s
 simp[kE,km,h2]
 intro b2
 refine kJ hf e fun r e=> ?_
 intro v0
 refine cy (X:=Nat×Rdr×Value×List Cond) [0,2] [2] (fun z=> andE N s=((rh N z.1 z.2.1 z.2.2.2).map fun q=> (q.1,Ti 7 q.2))∧z.2.2.2.length+z.1≤501) (fun z=> [(3, .own 6 z.2.2.1)]) (fun z=> [(0, .box b (cW z.2.1)),(6, .row z.2.2.1 aH 7 (z.2.2.2.map enc))]) (fun z=> z.1) (500,r.1,v0, [r.2]) ⟨e,by simp⟩ (by simp) (by simp) ?_
 clear e
 rintro⟨k,s1,v,l⟩ ⟨e,hlen⟩
 simp only at e hlen
 obtain _ | k:=k
 ·rw[e,rh] at hf;exact hf.elim
 rw[rh,Out.bind_map] at e
 simp[h1]
 refine oj hf e fun w e=> ?_
 simp[-Bool.forall_bool, -Bool.exists_bool,h2,h3]
 refine⟨fun hw=> ?_,fun hw=> ?_⟩
 ·rw[if_pos hw,Out.bind_map] at e
  exact kJ hf e fun r2 e=> ⟨by omega,by omega,fun v'=> ⟨k,r2.1,v',l++ [r2.2],⟨e,by simp;omega⟩,⟨rfl, .inl ⟨rfl,rfl,rfl,rfl,rfl⟩, .inl ⟨rfl,by simp⟩⟩,by omega⟩⟩
 ·rw[if_neg (by simp[hw]),Out.map_ok] at e
  exact gT w.1 (Ti 7 l) (by simp) (by simp) e
theorem ZT (N:Rdr→Out (Rdr×Cond)) (h1:S ae=bN) (h2:S eh=Ph f N) (h3:S fq=Ay):
 fj lI lk S a0 (enc (X:=Cond)) f (ZN N):=by
 rintro b s ⟨⟩ hf
 have hf: (orE N s).fine f:=hf
 have e:=orE.eq_1 N s
 simp[lI,lk,h2]
 intro b2
 refine kJ hf e fun r e=> ?_
 intro v0
 refine cy (X:=Nat×Rdr×Value×List Cond) [0,2] [2] (fun z=> orE N s=((t3 N z.1 z.2.1 z.2.2.2).map fun q=> (q.1,Ti 8 q.2))∧z.2.2.2.length+z.1≤501) (fun z=> [(3, .own 6 z.2.2.1)]) (fun z=> [(0, .box b (cW z.2.1)),(6, .row z.2.2.1 aH 7 (z.2.2.2.map enc))]) (fun z=> z.1) (500,r.1,v0, [r.2]) ⟨e,by simp⟩ (by simp) (by simp) ?_
 clear e
 rintro⟨k,s1,v,l⟩ ⟨e,hlen⟩
 simp only at e hlen
 obtain _ | k:=k
 ·rw[e,t3] at hf;exact hf.elim
 rw[t3,Out.bind_map] at e
 simp[h1]
 refine oj hf e fun w e=> ?_
 simp[-Bool.forall_bool, -Bool.exists_bool,h2,h3]
 refine⟨fun hw=> ?_,fun hw=> ?_⟩
 ·rw[if_pos hw,Out.bind_map] at e
  exact kJ hf e fun r2 e=> ⟨by omega,by omega,fun v'=> ⟨k,r2.1,v',l++ [r2.2],⟨e,by simp;omega⟩,⟨rfl, .inl ⟨rfl,rfl,rfl,rfl,rfl⟩, .inl ⟨rfl,by simp⟩⟩,by omega⟩⟩
 ·rw[if_neg (by simp[hw]),Out.map_ok] at e
  exact gT w.1 (Ti 8 l) (by simp) (by simp) e
@[simp] abbrev Rx (s:Rdr) (_:Unit):Out (Rdr×Cond):=atomsE s
abbrev KZ (f:Int×Int):Spc:=AE a0 (enc (X:=Cond)) f Rx
theorem TX (h1:S ae=bN) (h2:S az=mg f) (h3:S ak=eZ f) (h4:S aJ=jK f) (h5:S bf=tH) (h6:S a5=pI) (h7:S bp=tI):
 fj jB i9 S a0 (enc (X:=Cond)) f Rx:=by
 rintro b s ⟨⟩ hf
 have hf: (atomsE s).fine f:=hf
 have e:=atomsE.eq_1 s
 simp only[EY,Oj,vw,cG,fV,Out.bind_map,Out.map_map,Out.bind_bind,Out.map_bind] at e
 simp[jB,i9,h1,h2,h3,h4,h5,h6,h7, -Bool.forall_bool, -Bool.exists_bool]
 repeat' first
  | refine kJ hf e fun q e=> ?_
  | refine Gr hf e fun q e=> ?_
  | refine oj hf e fun q e=> ?_
  | refine Gs hf e fun q e=> ?_
  | refine Cu hf e fun q e=> ?_
  | (refine⟨fun hc=> ?_,fun hc=> ?_⟩ <;> first | rw[if_pos hc] at e | rw[if_neg hc] at e | rw[if_neg (by simp[hc])] at e)
  | exact JR _ [] (.nil _) (by simp) e
  | exact JR _ [⟨2,_,E0,_,E0,_, []⟩] (LP _ (wY [] (.nil _))) (by simp) e
  | exact JR _ [_] (by simp) (by simp) e
  | exact gT _ _ (by simp) (by simp) e
  | intro _
theorem XV (N:Rdr→Out (Rdr×Cond)) (h1:S ae=bN) (h2:S bK=za f N) (h3:S ak=eZ f) (h4:S cY=QG f N) (h5:S eX=KZ f):
 fj kB kg S a0 (enc (X:=Cond)) f (Qn (notE N (orE N))):=by
 rintro b s ⟨⟩ hf
 have hf: (notE N (orE N) s).fine f:=hf
 have e:=notE.eq_1 N (orE N) s
 simp only[ cG,fV,Out.bind_map,Out.map_map,Out.bind_bind,Out.map_bind] at e
 simp[kB,kg,h1,h2,h3,h4,h5, -Bool.forall_bool, -Bool.exists_bool]
 repeat' first
  | refine kJ hf e fun q e=> ?_
  | refine Gr hf e fun q e=> ?_
  | refine oj hf e fun q e=> ?_
  | refine Gs hf e fun q e=> ?_
  | refine Cu hf e fun q e=> ?_
  | (refine⟨fun hc=> ?_,fun hc=> ?_⟩ <;> first | rw[if_pos hc] at e | rw[if_neg hc] at e | rw[if_neg (by simp[hc])] at e)
  | exact JR _ [] (.nil _) (by simp) e
  | exact JR _ [⟨2,_,E0,_,E0,_, []⟩] (LP _ (wY [] (.nil _))) (by simp) e
  | exact JR _ [_] (by simp) (by simp) e
  | exact gT _ _ (by simp) (by simp) e
  | intro _
end Go.Gv

namespace Go.Gv
open Cod (enc dec)
variable {S S0:Nat→Spc} {f:Int×Int}
@[simp] abbrev J7 (s:Rdr) (z:Int×Int):Out (Rdr×Int):=numberE s z.1 z.2
abbrev sQ (f:Int×Int):Spc:=AE (a2 Int Int) (enc (X:=Int)) f J7
theorem NK {b:Nat} {post:Rdr→Int→Prop} {v:Int} {H:ab} (s:Rdr) (h0:H 0=some (.box b (cW s))) (hq:post s v):BI enc b post (.v (.int .i64 v)) H:=gT s v (.same _) h0 hq
theorem Q9 {t:B} (h:qH t=true) {k:Nat} {c:UInt8} (hc:t.data[k]?=some c):48≤c.toNat∧c.toNat≤57:=by
 have:=List.all_eq_true.1 h c (by rw[←Array.getElem?_toList] at hc;exact List.mem_of_getElem? hc)
 simpa using this
theorem MF {t:B} {k:Nat} {c:UInt8} (hc: (lM t).data[k]?=some c): ∃j:Nat,t.data[j]?=some c:=by
 rw[lM,ByteArray.data_extract,Array.getElem?_extract] at hc
 split at hc
 ·exact⟨_,hc⟩
 ·cases hc
theorem OO (h1:S aJ=jK f) (h2:S fL=s_trimLeft) (hp:S dw=B5 f):fj ig hM S (a2 Int Int) (enc (X:=Int)) f J7:=by
 rintro b s ⟨most,a⟩ hf
 have hf: (numberE s most a).fine f:=hf
 have e:=numberE.eq_1 s most a
 simp[ig,hM,h1,h2]
 refine kJ hf e fun r e=> ?_
 have hdm:qH r.2=true∧most≤1000000:=by
  by_cases h:qH r.2=true∧most≤1000000
  ·exact h
  ·rw[if_neg h] at e
   rw[e] at hf
   exact hf.elim
 rw[if_pos hdm] at e
 obtain⟨hd,hm⟩:=hdm
 refine cy (X:=Nat×Int) [1,2,7] [0] (fun z=> z.1≤(lM r.2).size∧0≤z.2∧z.2≤100000000∧A1 most ((lM r.2).data.toList.drop z.1) z.2=Sr most r.2) (fun z=> [(8,enc z.2),(9,enc (z.1:Int))]) (fun _=> []) (fun z=> (lM r.2).size -z.1) (0,0) ⟨by simp,by simp,by simp,rfl⟩ (by simp) (by simp) ?_
 rintro⟨k,n⟩ ⟨hk,h0,hb,hn⟩
 simp only at hk h0 hb hn
 simp[hp]
 have fin:A1 most ((lM r.2).data.toList.drop k) n=n→(most < n→(a,8)=f)∧(n≤most→numberE s most a= .ok (r.1,n)):=by
  intro hx
  rw[hx] at hn
  rw[←hn] at e
  refine⟨fun h=> ?_,fun h=> ?_⟩
  ·rw[if_pos h] at e
   rw[e] at hf
   exact hf
  ·rw[if_neg (by omega)] at e
   exact e
 refine fun _=> ⟨fun hlt=> ⟨fun hle=> ?_,fun hgt=> ?_⟩,fun hge=> ?_⟩
 ·have iwr: ∀x:Int,0≤x→x≤9→IntKind.i64.wrap x=x:=fun x _ _=> InR.wrap (k:= .i64) (by simp only[InR];omega)
  refine⟨by simp only[InR];omega,hlt,fun c hc=> ?_⟩
  obtain⟨j,hj⟩:=MF hc
  have hcd:=Q9 hd hj
  rw[iwr _ (by omega) (by omega)]
  refine⟨by simp only[InR];omega,by simp only[InR];omega,by simp only[InR];omega,k+1,10*n+ ((c.toNat:Int) -48),⟨by omega,by omega,by omega,?_⟩,⟨rfl,by omega⟩,by omega⟩
  rw[←hn]
  have hd2: (lM r.2).data.toList.drop k=c:: (lM r.2).data.toList.drop (k+1):=dv (by rw[Array.getElem?_toList];exact hc)
  rw[hd2,A1,if_pos hle]
 ·have hx:=fin (by
   have hc: ∃c,(lM r.2).data[k]?=some c:=⟨_,Array.getElem?_eq_getElem hlt⟩
   obtain⟨c,hc⟩:=hc
   have hd2: (lM r.2).data.toList.drop k=c:: (lM r.2).data.toList.drop (k+1):=dv (by rw[Array.getElem?_toList];exact hc)
   rw[hd2,A1,if_neg (by omega)])
  exact⟨hx.1,fun h=> NK r.1 (by simp) (hx.2 h)⟩
 ·have hx:=fin (by
   rw[List.drop_eq_nil_of_le (by simpa using hge),A1])
  exact⟨hx.1,fun h=> NK r.1 (by simp) (hx.2 h)⟩
@[simp] abbrev Xu (s:Rdr) (_:Unit):Out (Rdr×Int):=bigE s
abbrev F8 (f:Int×Int):Spc:=AE a0 (enc (X:=Int)) f Xu
theorem XX (h1:S bM=sQ f):fj kD kj S a0 (enc (X:=Int)) f Xu:=by
 rintro b s ⟨⟩ hf
 have hf: (bigE s).fine f:=hf
 have e:=bigE.eq_1 s
 simp[kD,kj,h1]
 exact Cu hf e fun q e=> NK q.1 (by simp) e
theorem QN (most:Int): ∀ (l:List UInt8) (n:Int),(∀c∈l,48≤c.toNat)→0≤n→0≤A1 most l n
 | [],n,_,h=> h
 | c::l,n,hc,h=> by
   rw[A1]
   split
   ·have:=hc c (by simp)
    exact QN most l _ (fun x hx=> hc x (by simp[hx])) (by omega)
   ·exact h
theorem Yw {most:Int} {t:B} (h:qH t=true):0≤Sr most t:=by
 refine QN _ _ _ (fun c hc=> ?_) (Int.le_refl _)
 obtain⟨k,hk⟩:=List.mem_iff_getElem?.1 hc
 obtain⟨j,hj⟩:=MF (by rw[←Array.getElem?_toList];exact hk)
 exact(Q9 h hj).1
theorem Nb {s:Rdr} {most a:Int} {r:Rdr×Int} (h:numberE s most a= .ok r):0≤r.2∧r.2≤most:=by
 rw[numberE] at h
 cases ht:dY s 3 with
 | no=> rw[ht] at h;cases h
 | err g=> rw[ht] at h;cases h
 | ok x=>
   rw[ht,Out.bind_ok] at h
   split at h
   ·rename_i hd
    split at h
    ·cases h
    ·cases h
     exact⟨Yw hd.1,by omega⟩
   ·cases h
@[simp] abbrev J6 (s:Rdr) (_:Unit):Out (Rdr×Int):=signedE s
abbrev Cg (f:Int×Int):Spc:=AE a0 (enc (X:=Int)) f J6
theorem ON (h1:S ae=bN) (h2:S bT=F8 f):fj ib hG S a0 (enc (X:=Int)) f J6:=by
 rintro b s ⟨⟩ hf
 have hf: (signedE s).fine f:=hf
 have e:=signedE.eq_1 s
 simp only[cG] at e
 simp[ib,hG,h1,h2, -Bool.forall_bool, -Bool.exists_bool]
 refine oj hf e fun q e=> ⟨fun hc=> ?_,fun hc=> ?_⟩
 ·rw[if_pos hc] at e
  have hr: ∀x,bigE q.1= .ok x→InR .i64 (-x.2):=fun x hx=> by
   have:=Nb hx
   simp only[InR]
   omega
  cases hb:bigE q.1 with
  | no=> rw[e,hb] at hf;exact hf.elim
  | err g=> rw[e,hb] at hf;exact hf
  | ok x=>
    rw[hb] at e
    exact⟨hr x hb,NK x.1 (by simp) e⟩
 ·rw[if_neg (by simp[hc])] at e
  exact Cu hf e fun q e=> NK q.1 (by simp) e
end Go.Gv

namespace Go.Gv
open Cod (enc dec)
variable {S S0:Nat→Spc} {f:Int×Int}
@[simp] abbrev Ru (A:Rdr→Bool→Out (Rdr×Pat)) (O:Rdr→Out (Rdr×Cond)) (s:Rdr) (_:Unit):Out (Rdr×Pat):=itemE A O s
abbrev KX (f:Int×Int) (A:Rdr→Bool→Out (Rdr×Pat)) (O:Rdr→Out (Rdr×Cond)):Spc:=AE a0 (enc (X:=Pat)) f (Ru A O)
@[simp] abbrev Xs (A:Rdr→Bool→Out (Rdr×Pat)) (O:Rdr→Out (Rdr×Cond)) (s:Rdr) (_:Unit):Out (Rdr×Pat):=repE A O s
abbrev Pg (f:Int×Int) (A:Rdr→Bool→Out (Rdr×Pat)) (O:Rdr→Out (Rdr×Cond)):Spc:=AE a0 (enc (X:=Pat)) f (Xs A O)
@[simp] abbrev Xr (A:Rdr→Bool→Out (Rdr×Pat)) (O:Rdr→Out (Rdr×Cond)) (s:Rdr) (i:Bool):Out (Rdr×Pat):=seqE A O s i
abbrev Pf (f:Int×Int) (A:Rdr→Bool→Out (Rdr×Pat)) (O:Rdr→Out (Rdr×Cond)):Spc:=AE (a1 Bool) (enc (X:=Pat)) f (Xr A O)
@[simp] abbrev Xw (A:Rdr→Bool→Out (Rdr×Pat)) (s:Rdr) (i:Bool):Out (Rdr×Pat):=A s i
abbrev F9 (f:Int×Int) (A:Rdr→Bool→Out (Rdr×Pat)):Spc:=AE (a1 Bool) (enc (X:=Pat)) f (Xw A)
@[simp] abbrev Ov (O:Rdr→Out (Rdr×Cond)) (s:Rdr) (l:B):Out (Rdr×Pat):=tokenE O s l
abbrev F4 (f:Int×Int) (O:Rdr→Out (Rdr×Cond)):Spc:=AE (a1 B) (enc (X:=Pat)) f (Ov O)
theorem Wa {b:Nat} {post:Rdr→Pat→Prop} {H:ab} {op:Int} {lb rg:B} {d:D} {mn mx:Int} (s:Rdr) (x:Cond) (ks:List Pat) (hd:FrzTo (fun i=> if i=0 then none else H i) d (enc ks))
 (h0:H 0=some (.box b (cW s))) (hq:post s ⟨op,x,lb,rg,mn,mx,ks⟩):
 BI enc b post (.agg [.v (.int .i64 op), .v (.int .i64 x.op), .v (.string x.name), .v (.string x.arg), .v (.string x.val), .v (.string x.lab), .v (.bool x.fold), .list 7 (x.kids.map enc), .v (.string lb), .v (.string rg), .v (.int .i64 mn), .v (.int .i64 mx),d]) H:=
 by cases x;exact Wb s _ ks (by simp) hd h0 hq
theorem RN (O:Rdr→Out (Rdr×Cond)) (h1:S ae=bN) (h2:S aQ=me) (h3:S ak=eZ f) (h4:S cY=AE a0 (enc (X:=Cond)) f (Qn O)) (h5:S aJ=jK f) (h6:S bp=tI):
 fj iK iE S (a1 B) (enc (X:=Pat)) f (Ov O):=by
 rintro b s lab hf
 have hf: (tokenE O s lab).fine f:=hf
 have e:=tokenE.eq_1 O s lab
 simp only[vw,cG,fV,Out.bind_map,Out.map_map,Out.bind_bind,Out.map_bind] at e
 simp[iK,iE,h1,h2,h3,h4,h5,h6, -Bool.forall_bool, -Bool.exists_bool]
 repeat' first
  | refine kJ hf e fun q e=> ?_
  | refine Gr hf e fun q e=> ?_
  | refine oj hf e fun q e=> ?_
  | refine Gs hf e fun q e=> ?_
  | refine Cu hf e fun q e=> ?_
  | ((refine⟨fun hc=> ?_,fun hc=> ?_⟩ <;> first | rw[if_pos hc] at e | rw[if_neg hc] at e | rw[if_neg (by simp[hc])] at e) <;> try simp only[Out.bind_ok,Out.bind_err,Out.map_ok,Out.map_err,Out.bind_map,Out.bind_bind,Out.map_bind,Out.map_map] at e)
  | exact Wb _ [] [] (.nil _) (.nil _) (by simp) e
  | exact Wa _ _ [] (.nil _) (by simp) e
  | exact gT _ _ (by simp) (by simp) e
  | intro _
theorem TU (A:Rdr→Bool→Out (Rdr×Pat)) (O:Rdr→Out (Rdr×Cond)) (h1:S ae=bN) (h2:S az=mg f) (h3:S ak=eZ f) (h4:S dB=F4 f O) (h5:S cL=F9 f A):
 fj jx i4 S a0 (enc (X:=Pat)) f (Ru A O):=by
 rintro b s ⟨⟩ hf
 have hf: (itemE A O s).fine f:=hf
 have e:=itemE.eq_1 A O s
 simp only[BC,cG,fV,Out.bind_map,Out.map_map,Out.bind_bind,Out.map_bind] at e
 simp[jx,i4,h1,h2,h3,h4,h5, -Bool.forall_bool, -Bool.exists_bool]
 repeat' first
  | refine kJ hf e fun q e=> ?_
  | refine Gr hf e fun q e=> ?_
  | refine oj hf e fun q e=> ?_
  | refine Gs hf e fun q e=> ?_
  | refine Cu hf e fun q e=> ?_
  | ((refine⟨fun hc=> ?_,fun hc=> ?_⟩ <;> first | rw[if_pos hc] at e | rw[if_neg hc] at e | rw[if_neg (by simp[hc])] at e) <;> try simp only[Out.bind_ok,Out.bind_err,Out.map_ok,Out.map_err,Out.bind_map,Out.bind_bind,Out.map_bind,Out.map_map] at e)
  | exact Wb _ [] [] (.nil _) (.nil _) (by simp) e
  | exact Wa _ _ [] (.nil _) (by simp) e
  | exact gT _ _ (by simp) (by simp) e
  | intro _
theorem XU (A:Rdr→Bool→Out (Rdr×Pat)) (O:Rdr→Out (Rdr×Cond)) (hp:S dw=B5 f) (h1:S ae=bN) (h2:S eW=KX f A O) (h3:S bM=sQ f) (h4:S ak=eZ f) (h5:S aQ=me):
 fj kA kf S a0 (enc (X:=Pat)) f (Xs A O):=by
 rintro b s ⟨⟩ hf
 have hf: (repE A O s).fine f:=hf
 have e:=repE.eq_1 A O s
 simp[kA,kf,h1,h2,h3,h4,h5, -Bool.forall_bool, -Bool.exists_bool]
 intro b2
 refine kJ hf e fun r e=> ?_
 intro b3
 refine lL (X:=Nat×Rdr×Pat) [0,2,3] [2] [] [] [] [] (fun z=> repE A O s=qw z.1 z.2.1 z.2.2) (fun _=> []) (fun z=> [(0, .box b (cW z.2.1)),(3, .box b3 (enc z.2.2).cells)]) (fun z=> z.1) (500,r.1,r.2) [0,3] (fun _=> rfl) (by decide) (by decide) e (by simp) (by simp) ?_
 clear e
 rintro⟨k,s1,x⟩ e
 simp only at e
 obtain _ | k:=k
 ·rw[e,qw] at hf;exact hf.elim
 rw[qw,X9] at e
 simp only[Qb,cG,fV,Out.bind_map,Out.map_map,Out.bind_bind,Out.map_bind] at e
 simp[h1,h3,h4,h5,hp, -Bool.forall_bool, -Bool.exists_bool]
 repeat' first
  | refine kJ hf e fun q e=> ?_
  | refine Gr hf e fun q e=> ?_
  | refine oj hf e fun q e=> ?_
  | refine Gs hf e fun q e=> ?_
  | refine Cu hf e fun q e=> ?_
  | ((refine⟨fun hc=> ?_,fun hc=> ?_⟩ <;> first | rw[if_pos hc] at e | rw[if_neg hc] at e | rw[if_neg (by simp[hc])] at e) <;> try simp only[Out.bind_ok,Out.bind_err,Out.map_ok,Out.map_err,Out.bind_map,Out.bind_bind,Out.map_bind,Out.map_map] at e)
  | (refine⟨k,_,_,e,⟨.inl ⟨rfl,rfl,rfl,rfl,rfl⟩,?_⟩,Nat.lt_succ_self _⟩;simp[Cond0,E0];done)
  | exact gT _ _ (by simp) (by simp) e
  | (rw[e] at hf;exact hf)
  | intro _
theorem XT (A:Rdr→Bool→Out (Rdr×Pat)) (O:Rdr→Out (Rdr×Cond)) (h1:S ea=B3) (h2:S eg=Pg f A O) (h3:S dD=pZ):
 fj kz ke S (a1 Bool) (enc (X:=Pat)) f (Xr A O):=by
 rintro b s i hf
 have hf: (seqE A O s i).fine f:=hf
 have e:=seqE.eq_1 A O s i
 simp[kz,ke,h1,h2,h3, -Bool.forall_bool, -Bool.exists_bool]
 intro b2
 refine kJ hf e fun r e=> ?_
 intro v0
 refine cy (X:=Nat×Rdr×Value×List Pat) [0,1,4] [4] (fun z=> seqE A O s i=((pX A O i z.1 z.2.1 z.2.2.2).map fun q=> (q.1,sX 4 q.2))∧z.2.2.2.length+z.1≤501) (fun z=> [(5, .own 8 z.2.2.1)]) (fun z=> [(0, .box b (cW z.2.1)),(8, .row z.2.2.1 ag 13 (z.2.2.2.map enc))]) (fun z=> z.1) (500,r.1,v0, [r.2]) ⟨e,by simp⟩ (by simp) (by simp) ?_
 clear e
 rintro⟨k,s1,v,l⟩ ⟨e,hlen⟩
 simp only at e hlen
 obtain _ | k:=k
 ·rw[e,pX] at hf;exact hf.elim
 rw[pX,Out.bind_map] at e
 simp[h1]
 refine oj hf e fun w e=> ?_
 simp[-Bool.forall_bool, -Bool.exists_bool,h2,h3]
 refine⟨fun hw=> ?_,fun hw=> ?_⟩
 ·rw[if_pos hw,Out.bind_map] at e
  exact kJ hf e fun r2 e=> ⟨by omega,by omega,fun v'=> ⟨k,r2.1,v',l++ [r2.2],⟨e,by simp;omega⟩,⟨rfl, .inl ⟨rfl,rfl,rfl,rfl,rfl⟩, .inl ⟨rfl,by simp⟩⟩,by omega⟩⟩
 ·rw[if_neg (by simp[hw]),Out.map_ok] at e
  exact gT s1 (sX 4 l) (by simp) (by simp) e
theorem XZ (A:Rdr→Bool→Out (Rdr×Pat)) (O:Rdr→Out (Rdr×Cond)) (h1:S ae=bN) (h2:S ef=Pf f A O) (h3:S dD=pZ):
 fj kF ko S (a1 Bool) (enc (X:=Pat)) f (Xw (altE A O)):=by
 rintro b s i hf
 have hf: (altE A O s i).fine f:=hf
 have e:=altE.eq_1 A O s i
 simp[kF,ko,h1,h2,h3, -Bool.forall_bool, -Bool.exists_bool]
 intro b2
 refine kJ hf e fun r e=> ?_
 intro v0
 refine cy (X:=Nat×Rdr×Value×List Pat) [0,1,4] [4] (fun z=> altE A O s i=((ri A O i z.1 z.2.1 z.2.2.2).map fun q=> (q.1,sX 5 q.2))∧z.2.2.2.length+z.1≤501) (fun z=> [(5, .own 9 z.2.2.1)]) (fun z=> [(0, .box b (cW z.2.1)),(9, .row z.2.2.1 ag 13 (z.2.2.2.map enc))]) (fun z=> z.1) (500,r.1,v0, [r.2]) ⟨e,by simp⟩ (by simp) (by simp) ?_
 clear e
 rintro⟨k,s1,v,l⟩ ⟨e,hlen⟩
 simp only at e hlen
 obtain _ | k:=k
 ·rw[e,ri] at hf;exact hf.elim
 rw[ri,Out.bind_map] at e
 simp[h1]
 refine oj hf e fun w e=> ?_
 simp[-Bool.forall_bool, -Bool.exists_bool,h2,h3]
 refine⟨fun hw=> ?_,fun hw=> ?_⟩
 ·rw[if_pos hw,Out.bind_map] at e
  exact kJ hf e fun r2 e=> ⟨by omega,by omega,fun v'=> ⟨k,r2.1,v',l++ [r2.2],⟨e,by simp;omega⟩,⟨rfl, .inl ⟨rfl,rfl,rfl,rfl,rfl⟩, .inl ⟨rfl,by simp⟩⟩,by omega⟩⟩
 ·rw[if_neg (by simp[hw]),Out.map_ok] at e
  exact gT w.1 (sX 5 l) (by simp) (by simp) e
end Go.Gv
