/- A part of the framework and of the walks: W150 V50 V51 V52 V53 V54 V3 V55 W151. -/
import Derived.Laws.RangeString
import Derived.Test.YticbieanhfdnoaaGreatDoorGb20
import Derived.Test.YticbieanhfdnoaaGreatDoorGb18
import Derived.Test.YticbieanhfdnoaaGreatDoorGb25
set_option linter.unusedSimpArgs false
set_option linter.unusedVariables false
set_option maxRecDepth 100000

namespace Go.Gv
open Cod (enc dec)
variable {S S0:Nat→Spc}
def FunOn {X Y:Type} [Cod X] [Cod Y] (S:Nat→Spc) (d:D) (l:List X) (p:X→Y):Prop:=
 ∃g caps pc,d= .clo g caps∧S g= .pure pc∧ ∀x∈l,pc.pre (enc x::caps)∧ ∀r,pc.post (enc x::caps) r→r=enc (p x)
theorem FunOn.useB {X:Type} [Cod X] {S:Nat→Spc} {d:D} {l:List X} {p:X→Bool} (h:FunOn S d l p) {x:X} (hx:x∈l) {d':Nat} {H:aa} {K:D→aa→Prop} (hk: ∀y:Bool,(∀q:X→Bool,FunOn S d l q→y=q x)→K (.v (.bool y)) H):vr S d d' [enc x] H K:=by
 obtain⟨g,caps,pc,rfl,h1,h2⟩:=h
 simp only[vr,h1,Spc.pt]
 refine⟨(h2 x hx).1,fun r hr=> ?_⟩
 have e:=(h2 x hx).2 r hr
 rw[e]
 refine hk (p x) fun q hq=> ?_
 obtain⟨g',caps',pc',e',k1,k2⟩:=hq
 cases e'
 rw[h1] at k1
 cases k1
 exact cm (e.symm.trans ((k2 x hx).2 r hr))
theorem l9 {X Y Z:Type} [Cod X] [Cod Y] {S:Nat→Spc} {g:Nat} {caps:List D} {A:gq Z} {pre:Z→Prop} {post:Z→Y→Prop} {l:List X} {p:X→Y} {f:X→Z} (h:S g=cz A pre enc post) (hd: ∀x∈l,A.dec (enc x::caps)=some (f x)) (hp: ∀x∈l,pre (f x)) (hq: ∀x∈l,∀y,post (f x) y→y=p x):FunOn S (.clo g caps) l p:=by
 refine⟨g,caps,_,rfl,h,fun x hx=> ⟨⟨f x,hd x hx,hp x hx⟩,fun r hr=> ?_⟩⟩
 obtain⟨y,h1,h2⟩:=hr (f x) (hd x hx) (hp x hx)
 rw[h1,hq x hx y h2]
def DJ {X:Type} [Cod X] (S0:Nat→Spc) (x:List X×D×Unit):Prop:= ∃p:X→Bool,FunOn S0 x.2.1 x.1 p
def Mi {X:Type} [Cod X] (S0:Nat→Spc) (x:List X×D×Unit) (y:Int):Prop:= ∀p:X→Bool,FunOn S0 x.2.1 x.1 p→y=kq x.1 p
def NS {X:Type} [Cod X] (S0:Nat→Spc) (x:List X×D×Unit) (y:Bool):Prop:= ∀p:X→Bool,FunOn S0 x.2.1 x.1 p→y=x.1.any p
abbrev uI (X:Type) [Cod X] (S0:Nat→Spc):Spc:=cz (aE (List X) (aD a0)) (DJ S0) (enc (X:=Int)) (Mi S0)
abbrev xm (X:Type) [Cod X] (S0:Nat→Spc):Spc:=cz (aE (List X) (aD a0)) (DJ S0) (enc (X:=Bool)) (NS S0)
theorem yn:aK du dk S (aE (List Attr) (aD a0)) (DJ S) (enc (X:=Int)) (Mi S):=by
 rintro⟨l,d,⟨⟩⟩ ⟨p,hp⟩
 simp only at hp
 simp[du,dk, -Bool.forall_bool, -Bool.exists_bool]
 intro _
 refine ar (X:=Unit) [0,1] [] l.length (fun k _=> ∀p:Attr→Bool,FunOn S d l p→ ∀x∈l.take k,p x=false) (fun _=> []) (fun _=> []) () (by simp) (by simp) (by omega) (by simp) (by simp) (by simp) (by simp) (by simp) ?_ ?_
 ·intro k _ hk hP
  obtain⟨x,hx⟩: ∃x,l[k]?=some x:=⟨_,List.getElem?_eq_getElem hk⟩
  obtain⟨_,hgx⟩:=List.getElem?_eq_some_iff.1 hx
  simp[hk,hx,hgx, -Bool.forall_bool, -Bool.exists_bool]
  refine hp.useB (x:=x) (List.mem_of_getElem? hx) fun y hy=> ?_
  simp[-Bool.forall_bool, -Bool.exists_bool]
  refine⟨fun h=> ?_,fun h p' hp'=> ?_⟩
  ·intro p' hp'
   exact(pB hx (by rw[←hy p' hp',h]) (hP p' hp')).symm
  ·rw[eh hx]
   intro z hz
   rcases List.mem_append.1 hz with hz | hz
   ·exact hP p' hp' z hz
   ·simp at hz;subst hz;rw[←hy p' hp',h]
 ·intro _ hP
  simp[-Bool.forall_bool, -Bool.exists_bool]
  intro p' hp'
  exact(kp (by simpa using hP p' hp')).symm
theorem Bh:aK eO eK S (aE (List Cond) (aD a0)) (DJ S) (enc (X:=Int)) (Mi S):=by
 rintro⟨l,d,⟨⟩⟩ ⟨p,hp⟩
 simp only at hp
 simp[eO,eK, -Bool.forall_bool, -Bool.exists_bool]
 intro _
 refine ar (X:=Unit) [0,1] [] l.length (fun k _=> ∀p:Cond→Bool,FunOn S d l p→ ∀x∈l.take k,p x=false) (fun _=> []) (fun _=> []) () (by simp) (by simp) (by omega) (by simp) (by simp) (by simp) (by simp) (by simp) ?_ ?_
 ·intro k _ hk hP
  obtain⟨x,hx⟩: ∃x,l[k]?=some x:=⟨_,List.getElem?_eq_getElem hk⟩
  obtain⟨_,hgx⟩:=List.getElem?_eq_some_iff.1 hx
  simp[hk,hx,hgx, -Bool.forall_bool, -Bool.exists_bool]
  have e:D.agg [.v (.int .i64 x.op), .v (.string x.name), .v (.string x.arg), .v (.string x.val), .v (.string x.lab), .v (.bool x.fold), .list 7 (x.kids.map enc)]=enc x:=by simp
  rw[e]
  refine hp.useB (x:=x) (List.mem_of_getElem? hx) fun y hy=> ?_
  simp[-Bool.forall_bool, -Bool.exists_bool]
  refine⟨fun h=> ?_,fun h p' hp'=> ?_⟩
  ·intro p' hp'
   exact(pB hx (by rw[←hy p' hp',h]) (hP p' hp')).symm
  ·rw[eh hx]
   intro z hz
   rcases List.mem_append.1 hz with hz | hz
   ·exact hP p' hp' z hz
   ·simp at hz;subst hz;rw[←hy p' hp',h]
 ·intro _ hP
  simp[-Bool.forall_bool, -Bool.exists_bool]
  intro p' hp'
  exact(kp (by simpa using hP p' hp')).symm
theorem Bj (h1:S bv=uI Cond S0):aK dL dJ S (aE (List Cond) (aD a0)) (DJ S0) (enc (X:=Bool)) (NS S0):=by
 rintro⟨l,d,⟨⟩⟩ hp
 simp[dL,dJ,h1, -Bool.forall_bool, -Bool.exists_bool]
 refine⟨hp,fun y hy p' hp'=> ?_⟩
 rw[hy p' hp']
 exact vj p' l
theorem JU:aK fe eU S (aE (List Int) (aD a0)) (DJ S) (enc (X:=Int)) (Mi S):=by
 rintro⟨l,d,⟨⟩⟩ ⟨p,hp⟩
 simp only at hp
 simp[fe,eU, -Bool.forall_bool, -Bool.exists_bool]
 intro _
 refine ar (X:=Unit) [0,1] [] l.length (fun k _=> ∀p:Int→Bool,FunOn S d l p→ ∀x∈l.take k,p x=false) (fun _=> []) (fun _=> []) () (by simp) (by simp) (by omega) (by simp) (by simp) (by simp) (by simp) (by simp) ?_ ?_
 ·intro k _ hk hP
  obtain⟨x,hx⟩: ∃x,l[k]?=some x:=⟨_,List.getElem?_eq_getElem hk⟩
  obtain⟨_,hgx⟩:=List.getElem?_eq_some_iff.1 hx
  simp[hk,hx,hgx, -Bool.forall_bool, -Bool.exists_bool]
  refine hp.useB (x:=x) (List.mem_of_getElem? hx) fun y hy=> ?_
  simp[-Bool.forall_bool, -Bool.exists_bool]
  refine⟨fun h=> ?_,fun h p' hp'=> ?_⟩
  ·intro p' hp'
   exact(pB hx (by rw[←hy p' hp',h]) (hP p' hp')).symm
  ·rw[eh hx]
   intro z hz
   rcases List.mem_append.1 hz with hz | hz
   ·exact hP p' hp' z hz
   ·simp at hz;subst hz;rw[←hy p' hp',h]
 ·intro _ hP
  simp[-Bool.forall_bool, -Bool.exists_bool]
  intro p' hp'
  exact(kp (by simpa using hP p' hp')).symm
theorem JV (h1:S cQ=uI Int S0):aK d5 dU S (aE (List Int) (aD a0)) (DJ S0) (enc (X:=Bool)) (NS S0):=by
 rintro⟨l,d,⟨⟩⟩ hp
 simp[d5,dU,h1, -Bool.forall_bool, -Bool.exists_bool]
 refine⟨hp,fun y hy p' hp'=> ?_⟩
 rw[hy p' hp']
 exact vj p' l
theorem D0:aK dZ dT S (aE (List Region) (aD a0)) (DJ S) (enc (X:=Int)) (Mi S):=by
 rintro⟨l,d,⟨⟩⟩ ⟨p,hp⟩
 simp only at hp
 simp[dZ,dT, -Bool.forall_bool, -Bool.exists_bool]
 intro _
 refine ar (X:=Unit) [0,1] [] l.length (fun k _=> ∀p:Region→Bool,FunOn S d l p→ ∀x∈l.take k,p x=false) (fun _=> []) (fun _=> []) () (by simp) (by simp) (by omega) (by simp) (by simp) (by simp) (by simp) (by simp) ?_ ?_
 ·intro k _ hk hP
  obtain⟨x,hx⟩: ∃x,l[k]?=some x:=⟨_,List.getElem?_eq_getElem hk⟩
  obtain⟨_,hgx⟩:=List.getElem?_eq_some_iff.1 hx
  simp[hk,hx,hgx, -Bool.forall_bool, -Bool.exists_bool]
  refine hp.useB (x:=x) (List.mem_of_getElem? hx) fun y hy=> ?_
  simp[-Bool.forall_bool, -Bool.exists_bool]
  refine⟨fun h=> ?_,fun h p' hp'=> ?_⟩
  ·intro p' hp'
   exact(pB hx (by rw[←hy p' hp',h]) (hP p' hp')).symm
  ·rw[eh hx]
   intro z hz
   rcases List.mem_append.1 hz with hz | hz
   ·exact hP p' hp' z hz
   ·simp at hz;subst hz;rw[←hy p' hp',h]
 ·intro _ hP
  simp[-Bool.forall_bool, -Bool.exists_bool]
  intro p' hp'
  exact(kp (by simpa using hP p' hp')).symm
theorem D1 (h1:S ct=uI Region S0):aK dv dm S (aE (List Region) (aD a0)) (DJ S0) (enc (X:=Bool)) (NS S0):=by
 rintro⟨l,d,⟨⟩⟩ hp
 simp[dv,dm,h1, -Bool.forall_bool, -Bool.exists_bool]
 refine⟨hp,fun y hy p' hp'=> ?_⟩
 rw[hy p' hp']
 exact vj p' l
end Go.Gv

namespace Go.Gv
open Cod (enc dec)
structure U64 where
 val:Int
deriving DecidableEq
instance:Cod U64 where
 wd:=1
 enc n:= .v (.int .u64 n.val)
 dec | .v (.int .u64 n)=> some ⟨n⟩ | _=> none
 kn _:=rfl
 wid _:=rfl
 dec_enc _:=rfl
 le d x h:=by
  split at h
  ·cases h;exact .same _
  ·cases h
@[simp] theorem UG (n:U64):enc n= .v (.int .u64 n.val):=id rfl
@[simp] theorem VF:Cod.wd U64=1:=id rfl
@[simp] theorem UN (n:Int):dec (X:=U64) (.v (.int .u64 n))=some ⟨n⟩:=id rfl
@[simp] theorem UA (n:U64):U64.mk n.val=n:=id rfl
structure Rng where
 fr:I32
 to:I32
deriving DecidableEq
instance:Cod Rng where
 wd:=2
 enc s:= .agg [enc s.fr,enc s.to]
 dec | .agg [x0,x1]=> (dec x0).bind fun x0=> (dec x1).bind fun x1=> some ⟨x0,x1⟩ | _=> none
 kn _:=rfl
 wid _:=rfl
 dec_enc s:=by simp
 le d x h:=by
  split at h
  ·simp only[Option.bind_eq_some_iff] at h
   obtain⟨x0,h0,x1,h1,h⟩:=h
   cases h
   exact LeL.agg (.cons (Cod.le _ _ h0) (.cons (Cod.le _ _ h1) .nil))
  ·cases h
@[simp] theorem UD (s:Rng): (Rng.mk s.fr s.to)=s:=id rfl
@[simp] theorem UJ (s:Rng):enc s= .agg [enc s.fr,enc s.to]:=id rfl
@[simp] theorem VJ:Cod.wd Rng=2:=id rfl
@[simp] theorem UQ (x0 x1:D):dec (X:=Rng) (.agg [x0,x1])=((dec x0).bind fun x0=> (dec x1).bind fun x1=> some ⟨x0,x1⟩):=id rfl
structure Rx where
 op:Int
 mn:Int
 mx:Int
 rs:List Rng
 kids:List Rx
mutual
def z8:Rx→D
 | .mk op mn mx rs ks=> .agg [enc op,enc mn,enc mx,enc rs, .list 5 (pY ks)]
def pY:List Rx→List D
 | []=> []
 | k::ks=> z8 k::pY ks
end
mutual
def Fm:D→Option Rx
 | .agg [x0,x1,x2,x3,x4]=> (dec x0).bind fun op=> (dec x1).bind fun mn=> (dec x2).bind fun mx=> (dec x3).bind fun rs=> (w7 x4).bind fun ks=> some (.mk op mn mx rs ks)
 | _=> none
def w7:D→Option (List Rx)
 | .list n es=> if n=5 then rG es else none
 | .v (.slice none 0 0)=> some []
 | _=> none
def rG:List D→Option (List Rx)
 | []=> some []
 | d::ds=> (Fm d).bind fun x=> (rG ds).bind fun xs=> some (x::xs)
end
theorem wC: ∀l:List Rx,pY l=l.map z8
 | []=> rfl
 | _::l=> by rw[pY,wC l];rfl
theorem H4: ∀c:Rx,(z8 c).kn=true
 | .mk .. => rfl
theorem Fe: ∀c:Rx,(z8 c).cells.length=5
 | .mk .. => rfl
mutual
theorem Fl: ∀c:Rx,Fm (z8 c)=some c
 | .mk op mn mx rs ks=> by
   have h:w7 (.list 5 (pY ks))=some ks:=by rw[w7,if_pos rfl];exact BT ks
   simp only[z8,Fm,Cod.dec_enc,Option.bind_some,h]
theorem BT: ∀l:List Rx,rG (pY l)=some l
 | []=> by simp only[pY,rG]
 | c::l=> by simp only[pY,rG,Fl c,BT l,Option.bind_some]
end
mutual
theorem H9: ∀ (d:D) (c:Rx),Fm d=some c→FrzTo di d (z8 c)
 | .agg [x0,x1,x2,x3,x4],c,h=> by
   simp only[Fm,Option.bind_eq_some_iff,Option.some.injEq] at h
   obtain⟨op,h0,mn,h1,mx,h2,rs,h3,ks,h4,rfl⟩:=h
   rw[z8]
   exact LeL.agg (.cons (Cod.le _ _ h0) (.cons (Cod.le _ _ h1) (.cons (Cod.le _ _ h2) (.cons (Cod.le _ _ h3) (.cons (LL x4 ks h4) .nil)))))
theorem LL: ∀ (d:D) (l:List Rx),w7 d=some l→FrzTo di d (.list 5 (pY l))
 | .list n es,l,h=> by
   simp only[w7] at h
   split at h
   ·rename_i hn
    subst hn
    have hl:=Fk es l h
    refine .list hl.1 (fun e he=> ?_) hl.2
    rw[wC] at he
    obtain⟨x,hx,rfl⟩:=List.mem_map.1 he
    exact⟨H4 x,Fe x⟩
   ·cases h
 | .v (.slice none 0 0),l,h=> by
   simp only[w7,Option.some.injEq] at h
   subst h
   exact .nil _
theorem Fk: ∀ (es:List D) (l:List Rx),rG es=some l→LeL es (pY l)
 | [],l,h=> by
   simp only[rG,Option.some.injEq] at h
   subst h
   exact .nil
 | d::ds,l,h=> by
   simp only[rG,Option.bind_eq_some_iff,Option.some.injEq] at h
   obtain⟨x,h1,xs,h2,rfl⟩:=h
   rw[pY]
   exact .cons (H9 d x h1) (Fk ds xs h2)
end
instance:Cod Rx where
 wd:=5
 enc:=z8
 dec:=Fm
 kn:=H4
 wid:=Fe
 dec_enc:=Fl
 le:=H9
theorem Ju (ks:List Rx):D.list 5 (pY ks)=enc ks:=by rw[wC];rfl
theorem Lz (op mn mx:Int) (rs:List Rng) (ks:List Rx):enc (Rx.mk op mn mx rs ks)= .agg [enc op,enc mn,enc mx,enc rs,enc ks]:=by
 rw[←Ju]
 show z8 _=_
 rw[z8]
theorem Ae: ∀es:List D,rG es=es.mapM (dec (X:=Rx))
 | []=> by simp[rG]
 | d::es=> by
   rw[rG,List.mapM_cons,Ae es]
   rfl
theorem LM: ∀d:D,w7 d=dec (X:=List Rx) d:=fun d=> by
 unfold w7
 split
 ·rename_i n es
  show _=if n=5 then es.mapM (dec (X:=Rx)) else none
  rw[Ae]
 ·rfl
 ·rename_i h1 h2
  show _=(match d with
   | .list n es=> if n=5 then es.mapM (dec (X:=Rx)) else none
   | .v (.slice none 0 0)=> some []
   | _=> none)
  split
  ·exact absurd rfl (h1 _ _)
  ·exact absurd rfl h2
  ·rfl
@[simp] theorem ZW (s:Rx):Rx.mk s.op s.mn s.mx s.rs s.kids=s:=by cases s;rfl
@[simp] theorem Z2 (s:Rx):enc s= .agg [enc s.op,enc s.mn,enc s.mx,enc s.rs,enc s.kids]:=by cases s;exact Lz ..
@[simp] theorem qaZ:Cod.wd Rx=5:=id rfl
@[simp] theorem qaa (x0 x1 x2 x3 x4:D):dec (X:=Rx) (.agg [x0,x1,x2,x3,x4])=((dec x0).bind fun x0=> (dec x1).bind fun x1=> (dec x2).bind fun x2=> (dec x3).bind fun x3=> (dec x4).bind fun x4=> some ⟨x0,x1,x2,x3,x4⟩):=by
 show Fm _=_
 simp only[Fm,LM]
end Go.Gv

namespace Go.Gv
open Cod (enc dec)
structure Rp where
 s:B
 pos:Int
 fault:Int
 e:Int
def Rp.bump (p:Rp):Rp:= { p with pos:=p.pos+1 }
def Ap (p:Rp):Option Int:=
 if 200 < p.s.size then none else
 if p.pos=p.s.size then some (-1) else
 if 0≤p.pos then match p.s.data[p.pos.toNat]? with
  | some c=> if c.toNat < 128 then some c.toNat else none
  | none=> none
 else none
def Nk (sp:B) (c:Int):Bool:=sp.data.toList.any fun x=> decide ((x.toNat:Int)=c)
def hL (p:Rp) (_:Unit):Option (Rp×I32):=(Ap p).map fun c=> (p,⟨c⟩)
def Bo (p:Rp) (_:Unit):Option (Rp×Unit):=(Ap p).bind fun c=> if 0≤c then some (p.bump,()) else none
def sG (p:Rp) (_:B):Option (Rp× (I32×Bool)):=(Ap p).bind fun c=> if c < 0∨c=92 then none else some (p.bump,⟨c⟩,true)
def Ii:B:=⟨#[92,91,93,94,45]⟩
def EJ (p:Rp) (_:Unit):Option (Rp× (I32×Bool)):=(Ap p).bind fun c=> if c < 0∨Nk Ii c=true then none else sG p Ii
def Kl (fr to:Int):Rx:=⟨1,0,0, [⟨⟨fr⟩,⟨to⟩⟩], []⟩
def lX (out:List Rng) (r:Rng):List Rng:=match out.getLast? with
 | some q=> if r.fr.val≤q.to.val+1 then out.dropLast++ [⟨q.fr,⟨max q.to.val r.to.val⟩⟩] else out++ [r]
 | none=> [r]
def vX (l:List Rng):Bool:=match l with
 | [x]=> decide (0≤x.fr.val∧x.fr.val≤1114111∧0≤x.to.val∧x.to.val≤1114111)
 | [x,y]=> decide (0≤x.fr.val∧x.fr.val≤1114111∧0≤x.to.val∧x.to.val≤1114111∧0≤y.fr.val∧y.fr.val≤1114111∧0≤y.to.val∧y.to.val≤1114111∧x.fr.val≤y.fr.val)
 | _=> false
def uX (l:List Rng):List Rng:=l.foldl lX []
def LT:Nat→Rp→List Rng→Option (Rp×List Rng)
 | 0,_,_=> none
 | n+1,p,l=> (Ap p).bind fun c=> if l≠ []∧c=93 then some (p,l) else
   (EJ p ()).bind fun q=> (Ap q.1).bind fun d=> if d=45 then none else LT n q.1 (l++ [⟨q.2.1,q.2.1⟩])
def NF (p:Rp) (_:Unit):Option (Rp× (Rx×Bool)):=(Ap p).bind fun a=> if a≠91 then none else(Ap p.bump).bind fun c=> if c=94 then none else
 (LT 100 p.bump []).bind fun q=> if vX q.2=true then some (q.1.bump,⟨1,0,0,uX q.2, []⟩,true) else none
def Rc:B:=⟨#[92,46,91,93,40,41,123,125,124,42,43,63]⟩
def In (p:Rp) (_:Unit):Option (Rp× (Rx×Bool)):=(Ap p).bind fun c=>
 if c=40 then none else if c=46 then some (p.bump,Kl 0 1114111,true) else if c=91 then NF p () else
 if c≠92∧Nk Rc c=true then none else(sG p Rc).map fun q=> (q.1,Kl q.2.1.val q.2.1.val,q.2.2)
def AO (c:Int):Option (Int×Int):=if c=42 then some (0, -1) else if c=43 then some (1, -1) else if c=63 then some (0,1) else none
def Kz (p:Rp) (_:Unit):Option (Rp× (Rx×Bool)):=(In p ()).bind fun q=> if q.2.2=true then(Ap q.1).bind fun c=> if c=123 then none else match AO c with
 | some m=> (Ap q.1.bump).bind fun d=> if d=123∨(AO d).isSome=true then none else some (q.1.bump,⟨4,m.1,m.2, [], [q.2.1]⟩,true)
 | none=> some (q.1,q.2.1,true)
 else none
def Fx:Nat→Rp→List Rx→Option (Rp×List Rx)
 | 0,_,_=> none
 | n+1,p,l=> (Ap p).bind fun c=> if c < 0∨c=124∨c=41 then some (p,l) else
   (Kz p ()).bind fun q=> if q.2.1.op=2 then none else Fx n q.1 (l++ [q.2.1])
def GT (op:Int):List Rx→Rx
 | [e]=> e
 | l=> ⟨op,0,0, [],l⟩
def LW (p:Rp) (_:Unit):Option (Rp× (Rx×Bool)):=(Fx 100 p []).map fun q=> (q.1,GT 2 q.2,true)
def J0:Nat→Rp→List Rx→Option (Rp×List Rx)
 | 0,_,_=> none
 | n+1,p,l=> (LW p ()).bind fun q=> (Ap q.1).bind fun c=>
   if q.2.1.op=3 then none else if c=124 then J0 n q.1.bump (l++ [q.2.1]) else some (q.1,l++ [q.2.1])
def MJ (p:Rp) (_:Unit):Option (Rp× (Rx×Bool)):=(J0 100 p []).map fun q=> (q.1,GT 3 q.2,true)
end Go.Gv

namespace Go.Gv
open Cod (enc dec)
def Q7 (f:Rx→Int→Int→Option (Bool×Int)) (d:Int):List Rx→Int→Option (Bool×Int)
 | [],k=> some (true,k)
 | x::l,k=> (f x (d+1) k).bind fun r=> if r.1=true then Q7 f d l r.2 else some (false,r.2)
def lj:Nat→Rx→Int→Int→Option (Bool×Int)
 | 0=> fun _ _ _=> none
 | n+1=> fun x d k=> if d < 0∨1000 < d∨k < 0∨1000 < k then none else if 40 < d∨200 < k+1 then some (false,k+1) else Q7 (lj n) d x.kids (k+1)
def HL (l:List Rng):Bool:=match l with
 | [r]=> decide (0≤r.fr.val∧r.fr.val≤r.to.val∧r.to.val≤1114111)
 | _=> false
def Ro (x:Rx):Bool:=
 if x.op=1 then decide (x.mn=0∧x.mx=0) && x.kids.isEmpty && HL x.rs else
 if x.op=2 then decide (x.mn=0∧x.mx=0) && x.rs.isEmpty && decide (x.kids.length≠1∧x.kids.length≤300) && x.kids.all fun k=> decide (k.op≠2) else
 if x.op=3 then decide (x.mn=0∧x.mx=0) && x.rs.isEmpty && decide (1 < x.kids.length∧x.kids.length≤300) && x.kids.all fun k=> decide (k.op≠3) else
 if x.op=4 then decide (0≤x.mn∧x.mn≤16∧(x.mx= -1∨x.mn≤x.mx∧x.mx≤16)) && x.rs.isEmpty && decide (x.kids.length=1) else false
def IZ:Nat→Rx→Bool
 | 0=> fun _=> false
 | n+1=> fun x=> Ro x && x.kids.all (IZ n)
def Rj (f:Rx→Option Int):List Rx→Int→Option Int
 | [],k=> some k
 | x::l,k=> (f x).bind fun y=> if k < 0∨1000 < k∨y < 0∨1000 < y then none else Rj f l (min (k+y) 65)
def Rl (x:Rx) (m:Int):Option Int:=
 if x.mx= -1 then(if -1000000≤m*max x.mn 1∧m*max x.mn 1≤1000000 then some (min (m*max x.mn 1) 65) else none)
 else if -1000000≤m*x.mx∧m*x.mx≤1000000 then some (min (m*x.mx) 65) else none
def zg:Nat→Rx→Option Int
 | 0=> fun _=> none
 | n+1=> fun x=> if x.op=1 then some 1 else(Rj (zg n) x.kids 0).bind fun m=> if x.op≠4 then some m else Rl x m
def sR (n:Nat) (x:Rx):Bool:=(match lj n x 1 0 with | some r=> r.1 | none=> false) && IZ n x && (match zg n x with | some m=> decide (m≤64) | none=> false)
def pV (s:B):Bool:=s.data.toList.all fun c=> decide (c.toNat < 128)
def lB (s:B):Option Rx:=if s.size≤200∧pV s=true then(MJ ⟨s,0,0,0⟩ ()).bind fun q=> if q.2.2=true∧q.1.pos=s.size∧sR 50 q.2.1=true then some q.2.1 else none else none
end Go.Gv

namespace Go.Gv
open Cod (enc dec)
structure Prt where
 first:U64
 last:U64
 nul:Bool
deriving DecidableEq
instance:Cod Prt where
 wd:=3
 enc s:= .agg [enc s.first,enc s.last,enc s.nul]
 dec | .agg [x0,x1,x2]=> (dec x0).bind fun x0=> (dec x1).bind fun x1=> (dec x2).bind fun x2=> some ⟨x0,x1,x2⟩ | _=> none
 kn _:=rfl
 wid _:=rfl
 dec_enc s:=by simp
 le d x h:=by
  split at h
  ·simp only[Option.bind_eq_some_iff] at h
   obtain⟨x0,h0,x1,h1,x2,h2,h⟩:=h
   cases h
   exact LeL.agg (.cons (Cod.le _ _ h0) (.cons (Cod.le _ _ h1) (.cons (Cod.le _ _ h2) .nil)))
  ·cases h
@[simp] theorem UE (s:Prt): (Prt.mk s.first s.last s.nul)=s:=id rfl
@[simp] theorem UK (s:Prt):enc s= .agg [enc s.first,enc s.last,enc s.nul]:=id rfl
@[simp] theorem UR (x0 x1 x2:D):dec (X:=Prt) (.agg [x0,x1,x2])=((dec x0).bind fun x0=> (dec x1).bind fun x1=> (dec x2).bind fun x2=> some ⟨x0,x1,x2⟩):=id rfl
structure Tbk where
 lvs:List (List Rng)
 fi:U64
 la:U64
 fol:List U64
 nul:Bool
def JE (m:U64) (i:Nat):Bool:=decide (Hv .u64 (Kj .u64 m.val i) 1=1)
def M2 (a b:U64):U64:=⟨Rn .u64 a.val b.val⟩
def HP (fr to:U64):Nat→List U64→List U64
 | _, []=> []
 | i,f::l=> (if JE fr i=true then M2 f to else f)::HP fr to (i+1) l
def uZ (t:Tbk) (z:U64×U64):Option (Tbk×Unit):=if t.fol.length≤100000 then some ({ t with fol:=HP z.1 z.2 0 t.fol },()) else none
def RI (a b:Prt):Prt:=⟨if a.nul=true then M2 a.first b.first else a.first,if b.nul=true then M2 b.last a.last else b.last,a.nul && b.nul⟩
def qb (t:Tbk) (z:Prt×Prt):Option (Tbk×Prt):=(uZ t (z.1.last,z.2.first)).map fun q=> (q.1,RI z.1 z.2)
def tq:Prt:=⟨⟨0⟩,⟨0⟩,true⟩
def Wt:Prt:=⟨⟨0⟩,⟨0⟩,false⟩
def Sj (f:Tbk→Rx→Option (Tbk×Prt)):List Rx→Tbk→Prt→Option (Tbk×Prt)
 | [],t,p=> some (t,p)
 | x::l,t,p=> (f t x).bind fun q=> (qb q.1 (p,q.2)).bind fun r=> Sj f l r.1 r.2
def QU (f:Tbk→Rx→Option (Tbk×Prt)):List Rx→Tbk→Prt→Option (Tbk×Prt)
 | [],t,p=> some (t,p)
 | x::l,t,p=> (f t x).bind fun q=> QU f l q.1 ⟨M2 p.first q.2.first,M2 p.last q.2.last,p.nul || q.2.nul⟩
def CU (t:Tbk):Bool:=decide (t.lvs.length≤1000∧t.fol.length≤1000)
def PK (b r:Tbk→Rx→Option (Tbk×Prt)) (t:Tbk) (x:Rx):Option (Tbk×Prt):=
 if CU t=false∨1000 < x.kids.length then none else
 if x.op=1 then some ({ t with lvs:=t.lvs++ [x.rs],fol:=t.fol++ [⟨0⟩] },⟨⟨Em .u64 1 t.lvs.length⟩,⟨Em .u64 1 t.lvs.length⟩,false⟩) else
 if x.op=2 then Sj b x.kids t tq else
 if x.op=3 then QU b x.kids t Wt else r t x
def Rd (b:Tbk→Rx→Option (Tbk×Prt)) (y:Rx) (mx:Int):Nat→Tbk→Prt→Option (Tbk×Prt×Bool)
 | 0,t,p=> some (t,p,false)
 | k+1,t,p=> if CU t=false then none else(b t y).bind fun q=> if CU q.1=false then none else
   if q.1.lvs.length=t.lvs.length then some (q.1,tq,true) else
   (if mx < 0∧k=0 then uZ q.1 (q.2.last,q.2.first) else some (q.1,())).bind fun l=> (qb l.1 (p,q.2)).bind fun r=> Rd b y mx k r.1 r.2
def KA (b:Tbk→Rx→Option (Tbk×Prt)) (o:Tbk→Rx×Int→Option (Tbk×Prt)) (t:Tbk) (x:Rx):Option (Tbk×Prt):=match x.kids with
 | []=> none
 | y::_=> if x.mn < 0∨100 < x.mn∨x.mx < -1∨100 < x.mx then none else
   (Rd b y x.mx x.mn.toNat t tq).bind fun q=> if q.2.2=true then some (q.1,tq) else
   if x.mx < 0∧x.mn=0 then(b q.1 y).bind fun r=> (uZ r.1 (r.2.last,r.2.first)).map fun l=> (l.1, { r.2 with nul:=true }) else
   if x.mn < x.mx then(o q.1 (y,x.mx -x.mn)).bind fun r=> qb r.1 (q.2.1,r.2) else some (q.1,q.2.1)
def O1 (b:Tbk→Rx→Option (Tbk×Prt)) (o:Tbk→Rx×Int→Option (Tbk×Prt)) (t:Tbk) (z:Rx×Int):Option (Tbk×Prt):=
 if z.2 < 0∨100 < z.2∨CU t=false then none else
 if z.2=0 then some (t,tq) else
 (b t z.1).bind fun q=> if CU q.1=false then none else
 if q.1.lvs.length=t.lvs.length then some (q.1,tq) else
 (o q.1 (z.1,z.2 -1)).bind fun r=> (qb r.1 (q.2,r.2)).map fun l=> (l.1, { l.2 with nul:=true })
structure qd7 where
 b:Tbk→Rx→Option (Tbk×Prt)
 r:Tbk→Rx→Option (Tbk×Prt)
 o:Tbk→Rx×Int→Option (Tbk×Prt)
def t8:Nat→qd7
 | 0=> ⟨fun _ _=> none,fun _ _=> none,fun _ _=> none⟩
 | n+1=> ⟨PK (t8 n).b (t8 n).r,KA (t8 n).b (t8 n).o,O1 (t8 n).b (t8 n).o⟩
def qdB:Tbk:=⟨[],⟨0⟩,⟨0⟩, [],false⟩
def MM (n:Nat) (x:Rx):Option Tbk:=((t8 n).b qdB x).map fun q=> { q.1 with fi:=q.2.first,la:=q.2.last,nul:=q.2.nul }
def Oa (set:U64):Nat→List U64→U64→U64
 | _, [],m=> m
 | i,f::l,m=> Oa set (i+1) l (if JE set i=true then M2 m f else m)
def rf (t:Tbk) (set:U64) (beg:Bool):U64:=if beg=true then t.fi else Oa set 0 t.fol ⟨0⟩
end Go.Gv

namespace Go.Gv
open Cod (enc dec)
def Dv (l:List Rng) (c:Int):Bool:=l.any fun r=> decide (r.fr.val≤c) && decide (c≤r.to.val)
def Qn (next:U64) (c:I32):Nat→List (List Rng)→U64→U64
 | _, [],m=> m
 | i,l::ls,m=> Qn next c (i+1) ls (if JE next i && Dv l c.val then⟨Rn .u64 m.val (Em .u64 1 i)⟩ else m)
def MH (next:U64) (lvs:List (List Rng)):List I32→U64→U64
 | [],m=> m
 | v::vs,m=> MH next lvs vs (Qn next v 0 lvs m)
def Rv (t:Tbk) (vf:I32→List I32):List I32→U64→Bool→Bool
 | [],set,beg=> (beg && t.nul) || decide (Hv .u64 set.val t.la.val≠0)
 | c::l,set,beg=> if(MH (rf t set beg) t.lvs (vf c) ⟨0⟩).val=0 then false else Rv t vf l (MH (rf t set beg) t.lvs (vf c) ⟨0⟩) false
def low (c:Int):Int:=if 65≤c∧c≤90 then c+32 else c
def zY (c:I32):List I32:=([⟨low c.val⟩,⟨low c.val -32⟩,⟨low c.val -80⟩]:List I32).filter fun v=> decide (0≤v.val∧low v.val=low c.val)
def F5 (f:Bool) (c:I32):List I32:=if f=true then zY c else[c]
def NG (l:List UInt8):List I32:=l.map fun c=> ⟨(c.toNat:Int)⟩
def tr (x:Rx) (s:B) (f:Bool):Option Bool:=if sR 50 x=true∧pV s=true∧s.size≤1000 then(MM 50 x).bind fun t=> if CU t=true then some (Rv t (F5 f) (NG s.data.toList) ⟨0⟩ true) else none else none
end Go.Gv

namespace Go.Gv
instance:Inhabited Cond:=⟨⟨0,⟨#[]⟩,⟨#[]⟩,⟨#[]⟩,⟨#[]⟩,false, []⟩⟩
instance:Inhabited DI:=⟨⟨0,default,⟨#[]⟩,⟨#[]⟩,0,0, []⟩⟩
mutual
def dH:Cond→Nat | .mk _ _ _ _ _ _ ks=> hZ ks+1
def hZ:List Cond→Nat | []=> 0 | k::ks=> max (dH k) (hZ ks)
end
theorem yb (p:Cond):dH p=hZ p.kids+1:=by cases p;rw[dH]
theorem wP {k:Cond} : ∀ {ks:List Cond},k∈ks→dH k≤hZ ks
 | a::ks,h=> by
   rw[hZ]
   rcases List.mem_cons.1 h with rfl | h
   ·omega
   ·have:=wP h;omega
theorem FE {p k:Cond} (h:k∈p.kids):dH k < dH p:=by have:=wP h;rw[yb p];omega
end Go.Gv

namespace Go.Gv
open Cod (enc dec)
mutual
def f9:Cond→Nat | .mk _ _ _ _ _ _ ks=> ep ks+1
def ep:List Cond→Nat | []=> 0 | k::ks=> f9 k+ep ks
end
theorem pq (x:Cond):f9 x=ep x.kids+1:=by cases x;rw[f9]
theorem rX: ∀ (a b:List Cond),ep (a++b)=ep a+ep b
 | [],b=> by rw[List.nil_append,ep];omega
 | k::a,b=> by rw[List.cons_append,ep,ep,rX a b];omega
theorem B2: ∀ (a b:List Cond),hZ (a++b)=max (hZ a) (hZ b)
 | [],b=> by rw[List.nil_append,hZ];omega
 | k::a,b=> by rw[List.cons_append,hZ,hZ,B2 a b];omega
theorem ws: ∀ {ks:List Cond} {k:Cond},k∈ks→f9 k≤ep ks
 | x::ks,k,h=> by
   rw[ep]
   rcases List.mem_cons.1 h with rfl | h
   ·omega
   ·have:=ws h;omega
theorem I4 {ks:List Cond} {k:Nat} {x:Cond} (h:ks[k]?=some x):ep (ks.take (k+1))=ep (ks.take k) +f9 x∧hZ (ks.take (k+1))=max (hZ (ks.take k)) (dH x)∧ep (ks.take k) +f9 x≤ep ks:=by
 have e:=eh h
 refine⟨by rw[e,rX,ep,ep];omega,by rw[e,B2,hZ,hZ];omega,?_⟩
 conv=> rhs;rw[←List.take_append_drop (k+1) ks,rX]
 rw[e,rX,ep,ep]
 omega
def gj:B:=⟨#[]⟩
def jl (a:List Attr) (n:B):Int:=kq a fun x=> decide (x.nm=n)
def pD (a:List Attr) (n:B):Int:=if n=gj then min 0 ((a.length:Int) -1) else jl a n
def Im (c:UInt8):Bool:=(decide (65≤c.toNat) && decide (c.toNat≤90)) || (decide (97≤c.toNat) && decide (c.toNat≤122)) || decide (c.toNat=95)
def ZR (c:UInt8):Bool:=Im c || (decide (48≤c.toNat) && decide (c.toNat≤57)) || decide (c.toNat=45)
def wo (s:B):Bool:=decide (1≤s.size∧s.size≤32) && (match s.data.toList with | c::_=> Im c | []=> false) && s.data.toList.all ZR
def re (s:B):Bool:=decide (s.size≤120) && s.data.toList.all fun c=> decide (32≤c.toNat∧c.toNat < 127)
def OQ (x:Cond):Bool:=
 if x.op=1 then decide (x.name=gj∧x.arg=gj∧x.val=gj∧x.lab=gj∧x.fold=false) && x.kids.isEmpty else
 if x.op=2 then decide (x.arg=gj∧x.lab=gj) && x.kids.isEmpty else
 if x.op=3 then decide (x.arg=gj∧x.lab=gj∧x.fold=false) && x.kids.isEmpty else
 if x.op=4 then decide (x.val=gj∧x.fold=false) && x.kids.isEmpty else
 if x.op=5 then decide (x.lab=gj∧x.fold=false∧(x.arg=gj→x.val=gj)) && x.kids.isEmpty else
 if x.op=6 then decide (x.name=gj∧x.arg=gj∧x.val=gj∧x.lab=gj∧x.fold=false) && decide (x.kids.length=1) else
 if x.op=7∨x.op=8 then decide (x.name=gj∧x.arg=gj∧x.val=gj∧x.lab=gj∧x.fold=false) && decide (2≤x.kids.length∧x.kids.length≤60) else false
def Of (a:List Attr) (x:Cond):Bool:=
 if x.op=2 then decide (0≤pD a x.name) else
 if x.op=3 then decide (0≤jl a x.name) else
 if x.op=4 then decide (0≤jl a x.name∧0≤jl a x.arg) else
 if x.op=5 then wo x.name && (decide (x.arg=gj) || wo x.arg) else true
def NO (s:B):Bool:=s.data.toList.any fun c=> decide (c.toNat=124)
def UZ (a:List Attr) (lb:List B) (x:Cond):Bool:=
 if x.op=2 then(lB x.val).isSome else
 if x.op=3 then(match a[(jl a x.name).toNat]? with | some b=> b.st | none=> false) && decide (x.val≠gj) && !NO x.val && re x.val else
 if x.op=4 then lb.any fun l=> decide (l=x.lab) else
 if x.op=5 then re x.val else true
def j6 (a:List Attr) (lb:List B) (x:Cond):Bool:=OQ x && Of a x && UZ a lb x
def lR (a:List Attr) (lb:List B):Nat→Cond→Bool
 | 0=> fun _=> false
 | n+1=> fun x=> j6 a lb x && x.kids.all (lR a lb n)
def KO (a:List Attr) (lb:List B) (x:Cond):Bool:=decide (f9 x≤60∧dH x≤20) && lR a lb 20 x
end Go.Gv

namespace Go.Gv
open Cod (enc dec)
variable {S S0:Nat→Spc}
theorem kD {X:Type} {l:List X} {k:Nat} (h:k < l.length): ∃x,l[k]?=some x:=⟨_,List.getElem?_eq_getElem h⟩
def QL (n:Nat) (x:Cond×Int×Int):Prop:=dH x.1≤n∧0≤x.2.1∧x.2.1+f9 x.1≤60∧0≤x.2.2∧x.2.2+dH x.1≤1000∧dH x.1≤60
abbrev yU (n:Nat):Spc:=cz (a3 Cond Int Int) (QL n) (sy (Y:=Int) (Z:=Int)) fun x y=> y=(x.2.1+f9 x.1,x.2.2+dH x.1 -1)
abbrev qO:Spc:=cz (a3 Cond Int Int) (fun x=> ∃n,QL n x) (sy (Y:=Int) (Z:=Int)) fun x y=> y=(x.2.1+f9 x.1,x.2.2+dH x.1 -1)
theorem qF (n:Nat) (h1:S aN=yU n):aK gT gz S (a3 Cond Int Int) (QL (n+1)) (sy (Y:=Int) (Z:=Int)) fun x y=> y=(x.2.1+f9 x.1,x.2.2+dH x.1 -1):=by
 rintro⟨x,nodes,deep⟩ ⟨hn,h0,h2,h3,h4,h5⟩
 simp only at hn h0 h2 h3 h4 h5
 have hd1:=yb x
 have hn1:=pq x
 simp[gT,gz]
 refine⟨by simp only[InR];omega,fun hkl=> ?_⟩
 refine ar (X:=Int×Int) [2,17] [] x.kids.length (fun k z=> z.1=nodes+1+ (ep (x.kids.take k):Int)∧z.2=deep+ (hZ (x.kids.take k):Int)) (fun z=> [(1,enc z.1),(8,enc z.2)]) (fun _=> []) (nodes+1,deep) (by simp) (by simp) (by omega) (by simp) (by simp) (by simp[ep,hZ]) (by simp) (by simp) ?_ ?_
 ·rintro k ⟨m,d⟩ hk ⟨e1,e2⟩
  simp only at e1 e2
  obtain⟨y,hy⟩:=kD hk
  obtain⟨_,hgy⟩:=List.getElem?_eq_some_iff.1 hy
  have hm:=I4 hy
  have hd:=wP (List.mem_of_getElem? hy)
  have hp:QL n (y,m,deep+1):=⟨by show dH y≤n;omega,by show 0≤m;omega,by show m+f9 y≤60;omega,by show 0≤deep+1;omega,by show deep+1+dH y≤1000;omega,by show dH y≤60;omega⟩
  have hm60: ¬60 < m:=by have:=pq y;omega
  simp[h1,hk,hy,hgy,hp,hm60]
  exact⟨by simp only[InR];omega,by omega,by rw[hm.2.1,e2];omega⟩
 ·rintro⟨m,d⟩ ⟨e1,e2⟩
  simp only at e1 e2
  rw[List.take_length] at e1 e2
  simp
  exact⟨by omega,by omega⟩
abbrev yW:Spc:=cz (a1 Cond) (fun x=> f9 x≤60∧dH x≤60) (enc (X:=Bool)) fun _ y=> y=false
theorem uj (h1:S aN=qO):aK ja iT S (a1 Cond) (fun x=> f9 x≤60∧dH x≤60) (enc (X:=Bool)) fun _ y=> y=false:=by
 rintro x ⟨hn,hd⟩
 have hp: ∃n,QL n (x,0,1):=⟨dH x,Nat.le_refl _,Int.le_refl _,by show(0:Int) +f9 x≤60;omega,by show(0:Int)≤1;omega,by show(1:Int) +dH x≤1000;omega,hd⟩
 simp[ja,iT,h1,hp, -Bool.forall_bool, -Bool.exists_bool]
 omega
abbrev wf:Spc:=cz (a1 Cond) (fun x=> OQ x=true) (enc (X:=Bool)) fun _ y=> y=true
set_option maxHeartbeats 1000000 in
theorem sO:aK br bq S (a1 Cond) (fun x=> OQ x=true) (enc (X:=Bool)) fun _ y=> y=true:=by
 rintro⟨op,name,arg,val,lab,fold,ks⟩ hx
 have hx:OQ ⟨op,name,arg,val,lab,fold,ks⟩=true:=hx
 unfold OQ at hx
 simp only at hx
 split at hx
 ·rename_i e;subst e;simp at hx
  obtain⟨⟨rfl,rfl,rfl,rfl,rfl⟩,rfl⟩:=hx
  simp[br,bq,gj, -Bool.forall_bool, -Bool.exists_bool]
 split at hx
 ·rename_i e;subst e;simp at hx
  obtain⟨⟨rfl,rfl⟩,rfl⟩:=hx
  simp[br,bq,gj, -Bool.forall_bool, -Bool.exists_bool]
 split at hx
 ·rename_i e;subst e;simp at hx
  obtain⟨⟨rfl,rfl,rfl⟩,rfl⟩:=hx
  simp[br,bq,gj, -Bool.forall_bool, -Bool.exists_bool]
 split at hx
 ·rename_i e;subst e;simp at hx
  obtain⟨⟨rfl,rfl⟩,rfl⟩:=hx
  simp[br,bq,gj, -Bool.forall_bool, -Bool.exists_bool]
 split at hx
 ·rename_i e;subst e;simp at hx
  obtain⟨⟨rfl,rfl,hav⟩,rfl⟩:=hx
  by_cases ha:arg=gj
  ·have hv:=hav.resolve_left fun h=> h ha
   subst ha;subst hv
   simp[br,bq,gj, -Bool.forall_bool, -Bool.exists_bool]
  ·have ha': ¬arg=⟨#[]⟩:=ha
   simp[br,bq,gj,ha', -Bool.forall_bool, -Bool.exists_bool]
 split at hx
 ·rename_i e;subst e;simp at hx
  obtain⟨⟨rfl,rfl,rfl,rfl,rfl⟩,hk⟩:=hx
  simp[br,bq,gj,hk, -Bool.forall_bool, -Bool.exists_bool]
 split at hx
 ·rename_i e
  simp at hx
  obtain⟨⟨rfl,rfl,rfl,rfl,rfl⟩,hk1,hk2⟩:=hx
  have q1: (2:Int)≤(ks.length:Int):=by omega
  have q2: (ks.length:Int)≤60:=by omega
  have q3: (ks.length:Int)≤9223372036854775807:=by omega
  rcases e with rfl | rfl <;> simp[br,bq,gj,q1,q2,q3, -Bool.forall_bool, -Bool.exists_bool]
 ·cases hx
end Go.Gv
