/- A part of the framework and of the walks: W150 V50 V51 V52 V53 V54 V3 V55 W151. -/
import Derived.Laws.RangeString
import Derived.Test.YticbieanhfdnoaaGreatDoorGa20
import Derived.Test.YticbieanhfdnoaaGreatDoorGa18
import Derived.Test.YticbieanhfdnoaaGreatDoorGa25
set_option linter.unusedSimpArgs false
set_option linter.unusedVariables false
set_option maxRecDepth 100000

namespace Go.Gv
open Cod (enc dec)
variable {S S0:Nat→Spc}
def FunOn {X Y:Type} [Cod X] [Cod Y] (S:Nat→Spc) (d:D) (l:List X) (p:X→Y):Prop:=
 ∃g caps pc,d= .clo g caps∧S g= .pure pc∧ ∀x∈l,pc.pre (enc x::caps)∧ ∀r,pc.post (enc x::caps) r→r=enc (p x)
theorem FunOn.useB {X:Type} [Cod X] {S:Nat→Spc} {d:D} {l:List X} {p:X→Bool} (h:FunOn S d l p) {x:X} (hx:x∈l) {d':Nat} {H:aa} {K:D→aa→Prop} (hk: ∀y:Bool,(∀q:X→Bool,FunOn S d l q→y=q x)→K (.v (.bool y)) H):uZ S d d' [enc x] H K:=by
 obtain⟨g,caps,pc,rfl,h1,h2⟩:=h
 simp only[uZ,h1,Spc.pt]
 refine⟨(h2 x hx).1,fun r hr=> ?_⟩
 have e:=(h2 x hx).2 r hr
 rw[e]
 refine hk (p x) fun q hq=> ?_
 obtain⟨g',caps',pc',e',k1,k2⟩:=hq
 cases e'
 rw[h1] at k1
 cases k1
 exact ci (e.symm.trans ((k2 x hx).2 r hr))
theorem lQ {X Y Z:Type} [Cod X] [Cod Y] {S:Nat→Spc} {g:Nat} {caps:List D} {A:gj Z} {pre:Z→Prop} {post:Z→Y→Prop} {l:List X} {p:X→Y} {f:X→Z} (h:S g=cF A pre enc post) (hd: ∀x∈l,A.dec (enc x::caps)=some (f x)) (hp: ∀x∈l,pre (f x)) (hq: ∀x∈l,∀y,post (f x) y→y=p x):FunOn S (.clo g caps) l p:=by
 refine⟨g,caps,_,rfl,h,fun x hx=> ⟨⟨f x,hd x hx,hp x hx⟩,fun r hr=> ?_⟩⟩
 obtain⟨y,h1,h2⟩:=hr (f x) (hd x hx) (hp x hx)
 rw[h1,hq x hx y h2]
def CU {X:Type} [Cod X] (S0:Nat→Spc) (x:List X×D×Unit):Prop:= ∃p:X→Bool,FunOn S0 x.2.1 x.1 p
def K7 {X:Type} [Cod X] (S0:Nat→Spc) (x:List X×D×Unit) (y:Int):Prop:= ∀p:X→Bool,FunOn S0 x.2.1 x.1 p→y=jS x.1 p
def MD {X:Type} [Cod X] (S0:Nat→Spc) (x:List X×D×Unit) (y:Bool):Prop:= ∀p:X→Bool,FunOn S0 x.2.1 x.1 p→y=x.1.any p
abbrev uj (X:Type) [Cod X] (S0:Nat→Spc):Spc:=cF (aE (List X) (aD a0)) (CU S0) (enc (X:=Int)) (K7 S0)
abbrev wT (X:Type) [Cod X] (S0:Nat→Spc):Spc:=cF (aE (List X) (aD a0)) (CU S0) (enc (X:=Bool)) (MD S0)
theorem xM:aO dn dg S (aE (List Attr) (aD a0)) (CU S) (enc (X:=Int)) (K7 S):=by
 rintro⟨l,d,⟨⟩⟩ ⟨p,hp⟩
 simp only at hp
 simp[dn,dg, -Bool.forall_bool, -Bool.exists_bool]
 intro _
 refine aq (X:=Unit) [0,1] [] l.length (fun k _=> ∀p:Attr→Bool,FunOn S d l p→ ∀x∈l.take k,p x=false) (fun _=> []) (fun _=> []) () (by simp) (by simp) (by omega) (by simp) (by simp) (by simp) (by simp) (by simp) ?_ ?_
 ·intro k _ hk hP
  obtain⟨x,hx⟩: ∃x,l[k]?=some x:=⟨_,List.getElem?_eq_getElem hk⟩
  obtain⟨_,hgx⟩:=List.getElem?_eq_some_iff.1 hx
  simp[hk,hx,hgx, -Bool.forall_bool, -Bool.exists_bool]
  refine hp.useB (x:=x) (List.mem_of_getElem? hx) fun y hy=> ?_
  simp[-Bool.forall_bool, -Bool.exists_bool]
  refine⟨fun h=> ?_,fun h p' hp'=> ?_⟩
  ·intro p' hp'
   exact(o8 hx (by rw[←hy p' hp',h]) (hP p' hp')).symm
  ·rw[ed hx]
   intro z hz
   rcases List.mem_append.1 hz with hz | hz
   ·exact hP p' hp' z hz
   ·simp at hz;subst hz;rw[←hy p' hp',h]
 ·intro _ hP
  simp[-Bool.forall_bool, -Bool.exists_bool]
  intro p' hp'
  exact(j7 (by simpa using hP p' hp')).symm
theorem AA:aO eI eE S (aE (List Cond) (aD a0)) (CU S) (enc (X:=Int)) (K7 S):=by
 rintro⟨l,d,⟨⟩⟩ ⟨p,hp⟩
 simp only at hp
 simp[eI,eE, -Bool.forall_bool, -Bool.exists_bool]
 intro _
 refine aq (X:=Unit) [0,1] [] l.length (fun k _=> ∀p:Cond→Bool,FunOn S d l p→ ∀x∈l.take k,p x=false) (fun _=> []) (fun _=> []) () (by simp) (by simp) (by omega) (by simp) (by simp) (by simp) (by simp) (by simp) ?_ ?_
 ·intro k _ hk hP
  obtain⟨x,hx⟩: ∃x,l[k]?=some x:=⟨_,List.getElem?_eq_getElem hk⟩
  obtain⟨_,hgx⟩:=List.getElem?_eq_some_iff.1 hx
  simp[hk,hx,hgx, -Bool.forall_bool, -Bool.exists_bool]
  have e:D.agg [.v (.int .i64 x.op), .v (.string x.name), .v (.string x.arg), .v (.string x.val), .v (.string x.lab), .v (.bool x.fold), .list 7 (x.kids.map enc)]=enc x:=by simp
  rw[e]
  refine hp.useB (x:=x) (List.mem_of_getElem? hx) fun y hy=> ?_
  simp[-Bool.forall_bool, -Bool.exists_bool]
  refine⟨fun h=> ?_,fun h p' hp'=> ?_⟩
  ·intro p' hp'
   exact(o8 hx (by rw[←hy p' hp',h]) (hP p' hp')).symm
  ·rw[ed hx]
   intro z hz
   rcases List.mem_append.1 hz with hz | hz
   ·exact hP p' hp' z hz
   ·simp at hz;subst hz;rw[←hy p' hp',h]
 ·intro _ hP
  simp[-Bool.forall_bool, -Bool.exists_bool]
  intro p' hp'
  exact(j7 (by simpa using hP p' hp')).symm
theorem AB (h1:S bu=uj Cond S0):aO dG dF S (aE (List Cond) (aD a0)) (CU S0) (enc (X:=Bool)) (MD S0):=by
 rintro⟨l,d,⟨⟩⟩ hp
 simp[dG,dF,h1, -Bool.forall_bool, -Bool.exists_bool]
 refine⟨hp,fun y hy p' hp'=> ?_⟩
 rw[hy p' hp']
 exact uR p' l
theorem IP:aO e8 eO S (aE (List Int) (aD a0)) (CU S) (enc (X:=Int)) (K7 S):=by
 rintro⟨l,d,⟨⟩⟩ ⟨p,hp⟩
 simp only at hp
 simp[e8,eO, -Bool.forall_bool, -Bool.exists_bool]
 intro _
 refine aq (X:=Unit) [0,1] [] l.length (fun k _=> ∀p:Int→Bool,FunOn S d l p→ ∀x∈l.take k,p x=false) (fun _=> []) (fun _=> []) () (by simp) (by simp) (by omega) (by simp) (by simp) (by simp) (by simp) (by simp) ?_ ?_
 ·intro k _ hk hP
  obtain⟨x,hx⟩: ∃x,l[k]?=some x:=⟨_,List.getElem?_eq_getElem hk⟩
  obtain⟨_,hgx⟩:=List.getElem?_eq_some_iff.1 hx
  simp[hk,hx,hgx, -Bool.forall_bool, -Bool.exists_bool]
  refine hp.useB (x:=x) (List.mem_of_getElem? hx) fun y hy=> ?_
  simp[-Bool.forall_bool, -Bool.exists_bool]
  refine⟨fun h=> ?_,fun h p' hp'=> ?_⟩
  ·intro p' hp'
   exact(o8 hx (by rw[←hy p' hp',h]) (hP p' hp')).symm
  ·rw[ed hx]
   intro z hz
   rcases List.mem_append.1 hz with hz | hz
   ·exact hP p' hp' z hz
   ·simp at hz;subst hz;rw[←hy p' hp',h]
 ·intro _ hP
  simp[-Bool.forall_bool, -Bool.exists_bool]
  intro p' hp'
  exact(j7 (by simpa using hP p' hp')).symm
theorem IQ (h1:S cM=uj Int S0):aO dV dP S (aE (List Int) (aD a0)) (CU S0) (enc (X:=Bool)) (MD S0):=by
 rintro⟨l,d,⟨⟩⟩ hp
 simp[dV,dP,h1, -Bool.forall_bool, -Bool.exists_bool]
 refine⟨hp,fun y hy p' hp'=> ?_⟩
 rw[hy p' hp']
 exact uR p' l
theorem Dd:aO dU dO S (aE (List Region) (aD a0)) (CU S) (enc (X:=Int)) (K7 S):=by
 rintro⟨l,d,⟨⟩⟩ ⟨p,hp⟩
 simp only at hp
 simp[dU,dO, -Bool.forall_bool, -Bool.exists_bool]
 intro _
 refine aq (X:=Unit) [0,1] [] l.length (fun k _=> ∀p:Region→Bool,FunOn S d l p→ ∀x∈l.take k,p x=false) (fun _=> []) (fun _=> []) () (by simp) (by simp) (by omega) (by simp) (by simp) (by simp) (by simp) (by simp) ?_ ?_
 ·intro k _ hk hP
  obtain⟨x,hx⟩: ∃x,l[k]?=some x:=⟨_,List.getElem?_eq_getElem hk⟩
  obtain⟨_,hgx⟩:=List.getElem?_eq_some_iff.1 hx
  simp[hk,hx,hgx, -Bool.forall_bool, -Bool.exists_bool]
  refine hp.useB (x:=x) (List.mem_of_getElem? hx) fun y hy=> ?_
  simp[-Bool.forall_bool, -Bool.exists_bool]
  refine⟨fun h=> ?_,fun h p' hp'=> ?_⟩
  ·intro p' hp'
   exact(o8 hx (by rw[←hy p' hp',h]) (hP p' hp')).symm
  ·rw[ed hx]
   intro z hz
   rcases List.mem_append.1 hz with hz | hz
   ·exact hP p' hp' z hz
   ·simp at hz;subst hz;rw[←hy p' hp',h]
 ·intro _ hP
  simp[-Bool.forall_bool, -Bool.exists_bool]
  intro p' hp'
  exact(j7 (by simpa using hP p' hp')).symm
theorem De (h1:S cn=uj Region S0):aO dq dh S (aE (List Region) (aD a0)) (CU S0) (enc (X:=Bool)) (MD S0):=by
 rintro⟨l,d,⟨⟩⟩ hp
 simp[dq,dh,h1, -Bool.forall_bool, -Bool.exists_bool]
 refine⟨hp,fun y hy p' hp'=> ?_⟩
 rw[hy p' hp']
 exact uR p' l
end Go.Gv

namespace Go.Gv
open Cod (enc dec)
structure U64 where
 val:Int
deriving DecidableEq
instance:Cod U64 where
 wd:=1
 enc n:= .v (.int .u64 n.val)
 dec | .v (.int .u64 n)=> some ⟨n⟩ | _=> none
 kn _:=rfl
 wid _:=rfl
 dec_enc _:=rfl
 le d x h:=by
  split at h
  ·cases h;exact .same _
  ·cases h
@[simp] theorem S8 (n:U64):enc n= .v (.int .u64 n.val):=id rfl
@[simp] theorem Ug:Cod.wd U64=1:=id rfl
@[simp] theorem Tg (n:Int):dec (X:=U64) (.v (.int .u64 n))=some ⟨n⟩:=id rfl
@[simp] theorem SU (n:U64):U64.mk n.val=n:=id rfl
structure Rng where
 fr:I32
 to:I32
deriving DecidableEq
instance:Cod Rng where
 wd:=2
 enc s:= .agg [enc s.fr,enc s.to]
 dec | .agg [x0,x1]=> (dec x0).bind fun x0=> (dec x1).bind fun x1=> some ⟨x0,x1⟩ | _=> none
 kn _:=rfl
 wid _:=rfl
 dec_enc s:=by simp
 le d x h:=by
  split at h
  ·simp only[Option.bind_eq_some_iff] at h
   obtain⟨x0,h0,x1,h1,h⟩:=h
   cases h
   exact LeL.agg (.cons (Cod.le _ _ h0) (.cons (Cod.le _ _ h1) .nil))
  ·cases h
@[simp] theorem SX (s:Rng): (Rng.mk s.fr s.to)=s:=id rfl
@[simp] theorem Tc (s:Rng):enc s= .agg [enc s.fr,enc s.to]:=id rfl
@[simp] theorem Uk:Cod.wd Rng=2:=id rfl
@[simp] theorem Tj (x0 x1:D):dec (X:=Rng) (.agg [x0,x1])=((dec x0).bind fun x0=> (dec x1).bind fun x1=> some ⟨x0,x1⟩):=id rfl
structure Rx where
 op:Int
 mn:Int
 mx:Int
 rs:List Rng
 kids:List Rx
mutual
def zn:Rx→D
 | .mk op mn mx rs ks=> .agg [enc op,enc mn,enc mx,enc rs, .list 5 (pA ks)]
def pA:List Rx→List D
 | []=> []
 | k::ks=> zn k::pA ks
end
mutual
def Es:D→Option Rx
 | .agg [x0,x1,x2,x3,x4]=> (dec x0).bind fun op=> (dec x1).bind fun mn=> (dec x2).bind fun mx=> (dec x3).bind fun rs=> (wF x4).bind fun ks=> some (.mk op mn mx rs ks)
 | _=> none
def wF:D→Option (List Rx)
 | .list n es=> if n=5 then ra es else none
 | .v (.slice none 0 0)=> some []
 | _=> none
def ra:List D→Option (List Rx)
 | []=> some []
 | d::ds=> (Es d).bind fun x=> (ra ds).bind fun xs=> some (x::xs)
end
theorem v7: ∀l:List Rx,pA l=l.map zn
 | []=> rfl
 | _::l=> by rw[pA,v7 l];rfl
theorem GZ: ∀c:Rx,(zn c).kn=true
 | .mk .. => rfl
theorem Ej: ∀c:Rx,(zn c).cells.length=5
 | .mk .. => rfl
mutual
theorem Er: ∀c:Rx,Es (zn c)=some c
 | .mk op mn mx rs ks=> by
   have h:wF (.list 5 (pA ks))=some ks:=by rw[wF,if_pos rfl];exact A6 ks
   simp only[zn,Es,Cod.dec_enc,Option.bind_some,h]
theorem A6: ∀l:List Rx,ra (pA l)=some l
 | []=> by simp only[pA,ra]
 | c::l=> by simp only[pA,ra,Er c,A6 l,Option.bind_some]
end
mutual
theorem G3: ∀ (d:D) (c:Rx),Es d=some c→FrzTo de d (zn c)
 | .agg [x0,x1,x2,x3,x4],c,h=> by
   simp only[Es,Option.bind_eq_some_iff,Option.some.injEq] at h
   obtain⟨op,h0,mn,h1,mx,h2,rs,h3,ks,h4,rfl⟩:=h
   rw[zn]
   exact LeL.agg (.cons (Cod.le _ _ h0) (.cons (Cod.le _ _ h1) (.cons (Cod.le _ _ h2) (.cons (Cod.le _ _ h3) (.cons (KC x4 ks h4) .nil)))))
theorem KC: ∀ (d:D) (l:List Rx),wF d=some l→FrzTo de d (.list 5 (pA l))
 | .list n es,l,h=> by
   simp only[wF] at h
   split at h
   ·rename_i hn
    subst hn
    have hl:=Ep es l h
    refine .list hl.1 (fun e he=> ?_) hl.2
    rw[v7] at he
    obtain⟨x,hx,rfl⟩:=List.mem_map.1 he
    exact⟨GZ x,Ej x⟩
   ·cases h
 | .v (.slice none 0 0),l,h=> by
   simp only[wF,Option.some.injEq] at h
   subst h
   exact .nil _
theorem Ep: ∀ (es:List D) (l:List Rx),ra es=some l→LeL es (pA l)
 | [],l,h=> by
   simp only[ra,Option.some.injEq] at h
   subst h
   exact .nil
 | d::ds,l,h=> by
   simp only[ra,Option.bind_eq_some_iff,Option.some.injEq] at h
   obtain⟨x,h1,xs,h2,rfl⟩:=h
   rw[pA]
   exact .cons (G3 d x h1) (Ep ds xs h2)
end
instance:Cod Rx where
 wd:=5
 enc:=zn
 dec:=Es
 kn:=GZ
 wid:=Ej
 dec_enc:=Er
 le:=G3
theorem Ip (ks:List Rx):D.list 5 (pA ks)=enc ks:=by rw[v7];rfl
theorem Kr (op mn mx:Int) (rs:List Rng) (ks:List Rx):enc (Rx.mk op mn mx rs ks)= .agg [enc op,enc mn,enc mx,enc rs,enc ks]:=by
 rw[←Ip]
 show zn _=_
 rw[zn]
theorem zs: ∀es:List D,ra es=es.mapM (dec (X:=Rx))
 | []=> by simp[ra]
 | d::es=> by
   rw[ra,List.mapM_cons,zs es]
   rfl
theorem KD: ∀d:D,wF d=dec (X:=List Rx) d:=fun d=> by
 unfold wF
 split
 ·rename_i n es
  show _=if n=5 then es.mapM (dec (X:=Rx)) else none
  rw[zs]
 ·rfl
 ·rename_i h1 h2
  show _=(match d with
   | .list n es=> if n=5 then es.mapM (dec (X:=Rx)) else none
   | .v (.slice none 0 0)=> some []
   | _=> none)
  split
  ·exact absurd rfl (h1 _ _)
  ·exact absurd rfl h2
  ·rfl
@[simp] theorem Yx (s:Rx):Rx.mk s.op s.mn s.mx s.rs s.kids=s:=by cases s;rfl
@[simp] theorem YD (s:Rx):enc s= .agg [enc s.op,enc s.mn,enc s.mx,enc s.rs,enc s.kids]:=by cases s;exact Kr ..
@[simp] theorem Zy:Cod.wd Rx=5:=id rfl
@[simp] theorem YL (x0 x1 x2 x3 x4:D):dec (X:=Rx) (.agg [x0,x1,x2,x3,x4])=((dec x0).bind fun x0=> (dec x1).bind fun x1=> (dec x2).bind fun x2=> (dec x3).bind fun x3=> (dec x4).bind fun x4=> some ⟨x0,x1,x2,x3,x4⟩):=by
 show Es _=_
 simp only[Es,KD]
end Go.Gv

namespace Go.Gv
open Cod (enc dec)
structure Rp where
 s:B
 pos:Int
 fault:Int
 e:Int
def Rp.bump (p:Rp):Rp:= { p with pos:=p.pos+1 }
def zD (p:Rp):Option Int:=
 if 200 < p.s.size then none else
 if p.pos=p.s.size then some (-1) else
 if 0≤p.pos then match p.s.data[p.pos.toNat]? with
  | some c=> if c.toNat < 128 then some c.toNat else none
  | none=> none
 else none
def L8 (sp:B) (c:Int):Bool:=sp.data.toList.any fun x=> decide ((x.toNat:Int)=c)
def gU (p:Rp) (_:Unit):Option (Rp×I32):=(zD p).map fun c=> (p,⟨c⟩)
def AG (p:Rp) (_:Unit):Option (Rp×Unit):=(zD p).bind fun c=> if 0≤c then some (p.bump,()) else none
def r9 (p:Rp) (_:B):Option (Rp× (I32×Bool)):=(zD p).bind fun c=> if c < 0∨c=92 then none else some (p.bump,⟨c⟩,true)
def Hd:B:=⟨#[92,91,93,94,45]⟩
def DQ (p:Rp) (_:Unit):Option (Rp× (I32×Bool)):=(zD p).bind fun c=> if c < 0∨L8 Hd c=true then none else r9 p Hd
def Jg (fr to:Int):Rx:=⟨1,0,0, [⟨⟨fr⟩,⟨to⟩⟩], []⟩
def lJ (out:List Rng) (r:Rng):List Rng:=match out.getLast? with
 | some q=> if r.fr.val≤q.to.val+1 then out.dropLast++ [⟨q.fr,⟨max q.to.val r.to.val⟩⟩] else out++ [r]
 | none=> [r]
def vA (l:List Rng):Bool:=match l with
 | [x]=> decide (0≤x.fr.val∧x.fr.val≤1114111∧0≤x.to.val∧x.to.val≤1114111)
 | [x,y]=> decide (0≤x.fr.val∧x.fr.val≤1114111∧0≤x.to.val∧x.to.val≤1114111∧0≤y.fr.val∧y.fr.val≤1114111∧0≤y.to.val∧y.to.val≤1114111∧x.fr.val≤y.fr.val)
 | _=> false
def uA (l:List Rng):List Rng:=l.foldl lJ []
def KK:Nat→Rp→List Rng→Option (Rp×List Rng)
 | 0,_,_=> none
 | n+1,p,l=> (zD p).bind fun c=> if l≠ []∧c=93 then some (p,l) else
   (DQ p ()).bind fun q=> (zD q.1).bind fun d=> if d=45 then none else KK n q.1 (l++ [⟨q.2.1,q.2.1⟩])
def Mq (p:Rp) (_:Unit):Option (Rp× (Rx×Bool)):=(zD p).bind fun a=> if a≠91 then none else(zD p.bump).bind fun c=> if c=94 then none else
 (KK 100 p.bump []).bind fun q=> if vA q.2=true then some (q.1.bump,⟨1,0,0,uA q.2, []⟩,true) else none
def PO:B:=⟨#[92,46,91,93,40,41,123,125,124,42,43,63]⟩
def Hj (p:Rp) (_:Unit):Option (Rp× (Rx×Bool)):=(zD p).bind fun c=>
 if c=40 then none else if c=46 then some (p.bump,Jg 0 1114111,true) else if c=91 then Mq p () else
 if c≠92∧L8 PO c=true then none else(r9 p PO).map fun q=> (q.1,Jg q.2.1.val q.2.1.val,q.2.2)
def z7 (c:Int):Option (Int×Int):=if c=42 then some (0, -1) else if c=43 then some (1, -1) else if c=63 then some (0,1) else none
def Jt (p:Rp) (_:Unit):Option (Rp× (Rx×Bool)):=(Hj p ()).bind fun q=> if q.2.2=true then(zD q.1).bind fun c=> if c=123 then none else match z7 c with
 | some m=> (zD q.1.bump).bind fun d=> if d=123∨(z7 d).isSome=true then none else some (q.1.bump,⟨4,m.1,m.2, [], [q.2.1]⟩,true)
 | none=> some (q.1,q.2.1,true)
 else none
def ED:Nat→Rp→List Rx→Option (Rp×List Rx)
 | 0,_,_=> none
 | n+1,p,l=> (zD p).bind fun c=> if c < 0∨c=124∨c=41 then some (p,l) else
   (Jt p ()).bind fun q=> if q.2.1.op=2 then none else ED n q.1 (l++ [q.2.1])
def FV (op:Int):List Rx→Rx
 | [e]=> e
 | l=> ⟨op,0,0, [],l⟩
def KN (p:Rp) (_:Unit):Option (Rp× (Rx×Bool)):=(ED 100 p []).map fun q=> (q.1,FV 2 q.2,true)
def IU:Nat→Rp→List Rx→Option (Rp×List Rx)
 | 0,_,_=> none
 | n+1,p,l=> (KN p ()).bind fun q=> (zD q.1).bind fun c=>
   if q.2.1.op=3 then none else if c=124 then IU n q.1.bump (l++ [q.2.1]) else some (q.1,l++ [q.2.1])
def Lw (p:Rp) (_:Unit):Option (Rp× (Rx×Bool)):=(IU 100 p []).map fun q=> (q.1,FV 3 q.2,true)
end Go.Gv

namespace Go.Gv
open Cod (enc dec)
def PI (f:Rx→Int→Int→Option (Bool×Int)) (d:Int):List Rx→Int→Option (Bool×Int)
 | [],k=> some (true,k)
 | x::l,k=> (f x (d+1) k).bind fun r=> if r.1=true then PI f d l r.2 else some (false,r.2)
def kV:Nat→Rx→Int→Int→Option (Bool×Int)
 | 0=> fun _ _ _=> none
 | n+1=> fun x d k=> if d < 0∨1000 < d∨k < 0∨1000 < k then none else if 40 < d∨200 < k+1 then some (false,k+1) else PI (kV n) d x.kids (k+1)
def GL (l:List Rng):Bool:=match l with
 | [r]=> decide (0≤r.fr.val∧r.fr.val≤r.to.val∧r.to.val≤1114111)
 | _=> false
def P0 (x:Rx):Bool:=
 if x.op=1 then decide (x.mn=0∧x.mx=0) && x.kids.isEmpty && GL x.rs else
 if x.op=2 then decide (x.mn=0∧x.mx=0) && x.rs.isEmpty && decide (x.kids.length≠1∧x.kids.length≤300) && x.kids.all fun k=> decide (k.op≠2) else
 if x.op=3 then decide (x.mn=0∧x.mx=0) && x.rs.isEmpty && decide (1 < x.kids.length∧x.kids.length≤300) && x.kids.all fun k=> decide (k.op≠3) else
 if x.op=4 then decide (0≤x.mn∧x.mn≤16∧(x.mx= -1∨x.mn≤x.mx∧x.mx≤16)) && x.rs.isEmpty && decide (x.kids.length=1) else false
def HV:Nat→Rx→Bool
 | 0=> fun _=> false
 | n+1=> fun x=> P0 x && x.kids.all (HV n)
def PV (f:Rx→Option Int):List Rx→Int→Option Int
 | [],k=> some k
 | x::l,k=> (f x).bind fun y=> if k < 0∨1000 < k∨y < 0∨1000 < y then none else PV f l (min (k+y) 65)
def PX (x:Rx) (m:Int):Option Int:=
 if x.mx= -1 then(if -1000000≤m*max x.mn 1∧m*max x.mn 1≤1000000 then some (min (m*max x.mn 1) 65) else none)
 else if -1000000≤m*x.mx∧m*x.mx≤1000000 then some (min (m*x.mx) 65) else none
def yD:Nat→Rx→Option Int
 | 0=> fun _=> none
 | n+1=> fun x=> if x.op=1 then some 1 else(PV (yD n) x.kids 0).bind fun m=> if x.op≠4 then some m else PX x m
def ss (n:Nat) (x:Rx):Bool:=(match kV n x 1 0 with | some r=> r.1 | none=> false) && HV n x && (match yD n x with | some m=> decide (m≤64) | none=> false)
def px (s:B):Bool:=s.data.toList.all fun c=> decide (c.toNat < 128)
def li (s:B):Option Rx:=if s.size≤200∧px s=true then(Lw ⟨s,0,0,0⟩ ()).bind fun q=> if q.2.2=true∧q.1.pos=s.size∧ss 50 q.2.1=true then some q.2.1 else none else none
end Go.Gv

namespace Go.Gv
open Cod (enc dec)
structure Prt where
 first:U64
 last:U64
 nul:Bool
deriving DecidableEq
instance:Cod Prt where
 wd:=3
 enc s:= .agg [enc s.first,enc s.last,enc s.nul]
 dec | .agg [x0,x1,x2]=> (dec x0).bind fun x0=> (dec x1).bind fun x1=> (dec x2).bind fun x2=> some ⟨x0,x1,x2⟩ | _=> none
 kn _:=rfl
 wid _:=rfl
 dec_enc s:=by simp
 le d x h:=by
  split at h
  ·simp only[Option.bind_eq_some_iff] at h
   obtain⟨x0,h0,x1,h1,x2,h2,h⟩:=h
   cases h
   exact LeL.agg (.cons (Cod.le _ _ h0) (.cons (Cod.le _ _ h1) (.cons (Cod.le _ _ h2) .nil)))
  ·cases h
@[simp] theorem SY (s:Prt): (Prt.mk s.first s.last s.nul)=s:=id rfl
@[simp] theorem Td (s:Prt):enc s= .agg [enc s.first,enc s.last,enc s.nul]:=id rfl
@[simp] theorem Tk (x0 x1 x2:D):dec (X:=Prt) (.agg [x0,x1,x2])=((dec x0).bind fun x0=> (dec x1).bind fun x1=> (dec x2).bind fun x2=> some ⟨x0,x1,x2⟩):=id rfl
structure Tbk where
 lvs:List (List Rng)
 fi:U64
 la:U64
 fol:List U64
 nul:Bool
def Iz (m:U64) (i:Nat):Bool:=decide (Gu .u64 (Je .u64 m.val i) 1=1)
def LR (a b:U64):U64:=⟨PZ .u64 a.val b.val⟩
def GP (fr to:U64):Nat→List U64→List U64
 | _, []=> []
 | i,f::l=> (if Iz fr i=true then LR f to else f)::GP fr to (i+1) l
def uC (t:Tbk) (z:U64×U64):Option (Tbk×Unit):=if t.fol.length≤100000 then some ({ t with fol:=GP z.1 z.2 0 t.fol },()) else none
def Qi (a b:Prt):Prt:=⟨if a.nul=true then LR a.first b.first else a.first,if b.nul=true then LR b.last a.last else b.last,a.nul && b.nul⟩
def pD (t:Tbk) (z:Prt×Prt):Option (Tbk×Prt):=(uC t (z.1.last,z.2.first)).map fun q=> (q.1,Qi z.1 z.2)
def sP:Prt:=⟨⟨0⟩,⟨0⟩,true⟩
def US:Prt:=⟨⟨0⟩,⟨0⟩,false⟩
def QR (f:Tbk→Rx→Option (Tbk×Prt)):List Rx→Tbk→Prt→Option (Tbk×Prt)
 | [],t,p=> some (t,p)
 | x::l,t,p=> (f t x).bind fun q=> (pD q.1 (p,q.2)).bind fun r=> QR f l r.1 r.2
def Px (f:Tbk→Rx→Option (Tbk×Prt)):List Rx→Tbk→Prt→Option (Tbk×Prt)
 | [],t,p=> some (t,p)
 | x::l,t,p=> (f t x).bind fun q=> Px f l q.1 ⟨LR p.first q.2.first,LR p.last q.2.last,p.nul || q.2.nul⟩
def B7 (t:Tbk):Bool:=decide (t.lvs.length≤1000∧t.fol.length≤1000)
def Om (b r:Tbk→Rx→Option (Tbk×Prt)) (t:Tbk) (x:Rx):Option (Tbk×Prt):=
 if B7 t=false∨1000 < x.kids.length then none else
 if x.op=1 then some ({ t with lvs:=t.lvs++ [x.rs],fol:=t.fol++ [⟨0⟩] },⟨⟨Dx .u64 1 t.lvs.length⟩,⟨Dx .u64 1 t.lvs.length⟩,false⟩) else
 if x.op=2 then QR b x.kids t sP else
 if x.op=3 then Px b x.kids t US else r t x
def PP (b:Tbk→Rx→Option (Tbk×Prt)) (y:Rx) (mx:Int):Nat→Tbk→Prt→Option (Tbk×Prt×Bool)
 | 0,t,p=> some (t,p,false)
 | k+1,t,p=> if B7 t=false then none else(b t y).bind fun q=> if B7 q.1=false then none else
   if q.1.lvs.length=t.lvs.length then some (q.1,sP,true) else
   (if mx < 0∧k=0 then uC q.1 (q.2.last,q.2.first) else some (q.1,())).bind fun l=> (pD l.1 (p,q.2)).bind fun r=> PP b y mx k r.1 r.2
def Ju (b:Tbk→Rx→Option (Tbk×Prt)) (o:Tbk→Rx×Int→Option (Tbk×Prt)) (t:Tbk) (x:Rx):Option (Tbk×Prt):=match x.kids with
 | []=> none
 | y::_=> if x.mn < 0∨100 < x.mn∨x.mx < -1∨100 < x.mx then none else
   (PP b y x.mx x.mn.toNat t sP).bind fun q=> if q.2.2=true then some (q.1,sP) else
   if x.mx < 0∧x.mn=0 then(b q.1 y).bind fun r=> (uC r.1 (r.2.last,r.2.first)).map fun l=> (l.1, { r.2 with nul:=true }) else
   if x.mn < x.mx then(o q.1 (y,x.mx -x.mn)).bind fun r=> pD r.1 (q.2.1,r.2) else some (q.1,q.2.1)
def ND (b:Tbk→Rx→Option (Tbk×Prt)) (o:Tbk→Rx×Int→Option (Tbk×Prt)) (t:Tbk) (z:Rx×Int):Option (Tbk×Prt):=
 if z.2 < 0∨100 < z.2∨B7 t=false then none else
 if z.2=0 then some (t,sP) else
 (b t z.1).bind fun q=> if B7 q.1=false then none else
 if q.1.lvs.length=t.lvs.length then some (q.1,sP) else
 (o q.1 (z.1,z.2 -1)).bind fun r=> (pD r.1 (q.2,r.2)).map fun l=> (l.1, { l.2 with nul:=true })
structure qcC where
 b:Tbk→Rx→Option (Tbk×Prt)
 r:Tbk→Rx→Option (Tbk×Prt)
 o:Tbk→Rx×Int→Option (Tbk×Prt)
def tD:Nat→qcC
 | 0=> ⟨fun _ _=> none,fun _ _=> none,fun _ _=> none⟩
 | n+1=> ⟨Om (tD n).b (tD n).r,Ju (tD n).b (tD n).o,ND (tD n).b (tD n).o⟩
def qb8:Tbk:=⟨[],⟨0⟩,⟨0⟩, [],false⟩
def LA (n:Nat) (x:Rx):Option Tbk:=((tD n).b qb8 x).map fun q=> { q.1 with fi:=q.2.first,la:=q.2.last,nul:=q.2.nul }
def MV (set:U64):Nat→List U64→U64→U64
 | _, [],m=> m
 | i,f::l,m=> MV set (i+1) l (if Iz set i=true then LR m f else m)
def qJ (t:Tbk) (set:U64) (beg:Bool):U64:=if beg=true then t.fi else MV set 0 t.fol ⟨0⟩
end Go.Gv

namespace Go.Gv
open Cod (enc dec)
def CF (l:List Rng) (c:Int):Bool:=l.any fun r=> decide (r.fr.val≤c) && decide (c≤r.to.val)
def O0 (next:U64) (c:I32):Nat→List (List Rng)→U64→U64
 | _, [],m=> m
 | i,l::ls,m=> O0 next c (i+1) ls (if Iz next i && CF l c.val then⟨PZ .u64 m.val (Dx .u64 1 i)⟩ else m)
def Lu (next:U64) (lvs:List (List Rng)):List I32→U64→U64
 | [],m=> m
 | v::vs,m=> Lu next lvs vs (O0 next v 0 lvs m)
def P6 (t:Tbk) (vf:I32→List I32):List I32→U64→Bool→Bool
 | [],set,beg=> (beg && t.nul) || decide (Gu .u64 set.val t.la.val≠0)
 | c::l,set,beg=> if(Lu (qJ t set beg) t.lvs (vf c) ⟨0⟩).val=0 then false else P6 t vf l (Lu (qJ t set beg) t.lvs (vf c) ⟨0⟩) false
def low (c:Int):Int:=if 65≤c∧c≤90 then c+32 else c
def zj (c:I32):List I32:=([⟨low c.val⟩,⟨low c.val -32⟩,⟨low c.val -80⟩]:List I32).filter fun v=> decide (0≤v.val∧low v.val=low c.val)
def Fb (f:Bool) (c:I32):List I32:=if f=true then zj c else[c]
def Mr (l:List UInt8):List I32:=l.map fun c=> ⟨(c.toNat:Int)⟩
def sQ (x:Rx) (s:B) (f:Bool):Option Bool:=if ss 50 x=true∧px s=true∧s.size≤1000 then(LA 50 x).bind fun t=> if B7 t=true then some (P6 t (Fb f) (Mr s.data.toList) ⟨0⟩ true) else none else none
end Go.Gv

namespace Go.Gv
instance:Inhabited Cond:=⟨⟨0,⟨#[]⟩,⟨#[]⟩,⟨#[]⟩,⟨#[]⟩,false, []⟩⟩
instance:Inhabited CT:=⟨⟨0,default,⟨#[]⟩,⟨#[]⟩,0,0, []⟩⟩
mutual
def fL:Cond→Nat | .mk _ _ _ _ _ _ ks=> kU ks+1
def kU:List Cond→Nat | []=> 0 | k::ks=> max (fL k) (kU ks)
end
theorem CL (p:Cond):fL p=kU p.kids+1:=by cases p;rw[fL]
theorem wq {k:Cond} : ∀ {ks:List Cond},k∈ks→fL k≤kU ks
 | a::ks,h=> by
   rw[kU]
   rcases List.mem_cons.1 h with rfl | h
   ·omega
   ·have:=wq h;omega
theorem EK {p k:Cond} (h:k∈p.kids):fL k < fL p:=by have:=wq h;rw[CL p];omega
end Go.Gv

namespace Go.Gv
open Cod (enc dec)
mutual
def kD:Cond→Nat | .mk _ _ _ _ _ _ ks=> ge ks+1
def ge:List Cond→Nat | []=> 0 | k::ks=> kD k+ge ks
end
theorem rB (x:Cond):kD x=ge x.kids+1:=by cases x;rw[kD]
theorem rA: ∀ (a b:List Cond),ge (a++b)=ge a+ge b
 | [],b=> by rw[List.nil_append,ge];omega
 | k::a,b=> by rw[List.cons_append,ge,ge,rA a b];omega
theorem Be: ∀ (a b:List Cond),kU (a++b)=max (kU a) (kU b)
 | [],b=> by rw[List.nil_append,kU];omega
 | k::a,b=> by rw[List.cons_append,kU,kU,Be a b];omega
theorem vR: ∀ {ks:List Cond} {k:Cond},k∈ks→kD k≤ge ks
 | x::ks,k,h=> by
   rw[ge]
   rcases List.mem_cons.1 h with rfl | h
   ·omega
   ·have:=vR h;omega
theorem H3 {ks:List Cond} {k:Nat} {x:Cond} (h:ks[k]?=some x):ge (ks.take (k+1))=ge (ks.take k) +kD x∧kU (ks.take (k+1))=max (kU (ks.take k)) (fL x)∧ge (ks.take k) +kD x≤ge ks:=by
 have e:=ed h
 refine⟨by rw[e,rA,ge,ge];omega,by rw[e,Be,kU,kU];omega,?_⟩
 conv=> rhs;rw[←List.take_append_drop (k+1) ks,rA]
 rw[e,rA,ge,ge]
 omega
def ga:B:=⟨#[]⟩
def jV (a:List Attr) (n:B):Int:=jS a fun x=> decide (x.nm=n)
def tm (a:List Attr) (n:B):Int:=if n=ga then min 0 ((a.length:Int) -1) else jV a n
def Hi (c:UInt8):Bool:=(decide (65≤c.toNat) && decide (c.toNat≤90)) || (decide (97≤c.toNat) && decide (c.toNat≤122)) || decide (c.toNat=95)
def Ys (c:UInt8):Bool:=Hi c || (decide (48≤c.toNat) && decide (c.toNat≤57)) || decide (c.toNat=45)
def vQ (s:B):Bool:=decide (1≤s.size∧s.size≤32) && (match s.data.toList with | c::_=> Hi c | []=> false) && s.data.toList.all Ys
def qI (s:B):Bool:=decide (s.size≤120) && s.data.toList.all fun c=> decide (32≤c.toNat∧c.toNat < 127)
def PN (x:Cond):Bool:=
 if x.op=1 then decide (x.name=ga∧x.arg=ga∧x.val=ga∧x.lab=ga∧x.fold=false) && x.kids.isEmpty else
 if x.op=2 then decide (x.arg=ga∧x.lab=ga) && x.kids.isEmpty else
 if x.op=3 then decide (x.arg=ga∧x.lab=ga∧x.fold=false) && x.kids.isEmpty else
 if x.op=4 then decide (x.val=ga∧x.fold=false) && x.kids.isEmpty else
 if x.op=5 then decide (x.lab=ga∧x.fold=false∧(x.arg=ga→x.val=ga)) && x.kids.isEmpty else
 if x.op=6 then decide (x.name=ga∧x.arg=ga∧x.val=ga∧x.lab=ga∧x.fold=false) && decide (x.kids.length=1) else
 if x.op=7∨x.op=8 then decide (x.name=ga∧x.arg=ga∧x.val=ga∧x.lab=ga∧x.fold=false) && decide (2≤x.kids.length∧x.kids.length≤60) else false
def OY (a:List Attr) (x:Cond):Bool:=
 if x.op=2 then decide (0≤tm a x.name) else
 if x.op=3 then decide (0≤jV a x.name) else
 if x.op=4 then decide (0≤jV a x.name∧0≤jV a x.arg) else
 if x.op=5 then vQ x.name && (decide (x.arg=ga) || vQ x.arg) else true
def Mz (s:B):Bool:=s.data.toList.any fun c=> decide (c.toNat=124)
def qbM (a:List Attr) (lb:List B) (x:Cond):Bool:=
 if x.op=2 then(li x.val).isSome else
 if x.op=3 then(match a[(jV a x.name).toNat]? with | some b=> b.st | none=> false) && decide (x.val≠ga) && !Mz x.val && qI x.val else
 if x.op=4 then lb.any fun l=> decide (l=x.lab) else
 if x.op=5 then qI x.val else true
def FW (a:List Attr) (lb:List B) (x:Cond):Bool:=PN x && OY a x && qbM a lb x
def GM (a:List Attr) (lb:List B):Nat→Cond→Bool
 | 0=> fun _=> false
 | n+1=> fun x=> FW a lb x && x.kids.all (GM a lb n)
def LS (a:List Attr) (lb:List B) (x:Cond):Bool:=decide (kD x≤60∧fL x≤20) && GM a lb 20 x
end Go.Gv

namespace Go.Gv
open Cod (enc dec)
variable {S S0:Nat→Spc}
theorem kj {X:Type} {l:List X} {k:Nat} (h:k < l.length): ∃x,l[k]?=some x:=⟨_,List.getElem?_eq_getElem h⟩
def Pp (n:Nat) (x:Cond×Int×Int):Prop:=fL x.1≤n∧0≤x.2.1∧x.2.1+kD x.1≤60∧0≤x.2.2∧x.2.2+fL x.1≤1000∧fL x.1≤60
abbrev yn (n:Nat):Spc:=cF (a3 Cond Int Int) (Pp n) (rV (Y:=Int) (Z:=Int)) fun x y=> y=(x.2.1+kD x.1,x.2.2+fL x.1 -1)
abbrev qp:Spc:=cF (a3 Cond Int Int) (fun x=> ∃n,Pp n x) (rV (Y:=Int) (Z:=Int)) fun x y=> y=(x.2.1+kD x.1,x.2.2+fL x.1 -1)
theorem qg (n:Nat) (h1:S aM=yn n):aO gM gr S (a3 Cond Int Int) (Pp (n+1)) (rV (Y:=Int) (Z:=Int)) fun x y=> y=(x.2.1+kD x.1,x.2.2+fL x.1 -1):=by
 rintro⟨x,nodes,deep⟩ ⟨hn,h0,h2,h3,h4,h5⟩
 simp only at hn h0 h2 h3 h4 h5
 have hd1:=CL x
 have hn1:=rB x
 simp[gM,gr]
 refine⟨by simp only[InR];omega,fun hkl=> ?_⟩
 refine aq (X:=Int×Int) [2,17] [] x.kids.length (fun k z=> z.1=nodes+1+ (ge (x.kids.take k):Int)∧z.2=deep+ (kU (x.kids.take k):Int)) (fun z=> [(1,enc z.1),(8,enc z.2)]) (fun _=> []) (nodes+1,deep) (by simp) (by simp) (by omega) (by simp) (by simp) (by simp[ge,kU]) (by simp) (by simp) ?_ ?_
 ·rintro k ⟨m,d⟩ hk ⟨e1,e2⟩
  simp only at e1 e2
  obtain⟨y,hy⟩:=kj hk
  obtain⟨_,hgy⟩:=List.getElem?_eq_some_iff.1 hy
  have hm:=H3 hy
  have hd:=wq (List.mem_of_getElem? hy)
  have hp:Pp n (y,m,deep+1):=⟨by show fL y≤n;omega,by show 0≤m;omega,by show m+kD y≤60;omega,by show 0≤deep+1;omega,by show deep+1+fL y≤1000;omega,by show fL y≤60;omega⟩
  have hm60: ¬60 < m:=by have:=rB y;omega
  simp[h1,hk,hy,hgy,hp,hm60]
  exact⟨by simp only[InR];omega,by omega,by rw[hm.2.1,e2];omega⟩
 ·rintro⟨m,d⟩ ⟨e1,e2⟩
  simp only at e1 e2
  rw[List.take_length] at e1 e2
  simp
  exact⟨by omega,by omega⟩
abbrev yp:Spc:=cF (a1 Cond) (fun x=> kD x≤60∧fL x≤60) (enc (X:=Bool)) fun _ y=> y=false
theorem tN (h1:S aM=qp):aO iT iK S (a1 Cond) (fun x=> kD x≤60∧fL x≤60) (enc (X:=Bool)) fun _ y=> y=false:=by
 rintro x ⟨hn,hd⟩
 have hp: ∃n,Pp n (x,0,1):=⟨fL x,Nat.le_refl _,Int.le_refl _,by show(0:Int) +kD x≤60;omega,by show(0:Int)≤1;omega,by show(1:Int) +fL x≤1000;omega,hd⟩
 simp[iT,iK,h1,hp, -Bool.forall_bool, -Bool.exists_bool]
 omega
abbrev vG:Spc:=cF (a1 Cond) (fun x=> PN x=true) (enc (X:=Bool)) fun _ y=> y=true
set_option maxHeartbeats 1000000 in
theorem so:aO bq bp S (a1 Cond) (fun x=> PN x=true) (enc (X:=Bool)) fun _ y=> y=true:=by
 rintro⟨op,name,arg,val,lab,fold,ks⟩ hx
 have hx:PN ⟨op,name,arg,val,lab,fold,ks⟩=true:=hx
 unfold PN at hx
 simp only at hx
 split at hx
 ·rename_i e;subst e;simp at hx
  obtain⟨⟨rfl,rfl,rfl,rfl,rfl⟩,rfl⟩:=hx
  simp[bq,bp,ga, -Bool.forall_bool, -Bool.exists_bool]
 split at hx
 ·rename_i e;subst e;simp at hx
  obtain⟨⟨rfl,rfl⟩,rfl⟩:=hx
  simp[bq,bp,ga, -Bool.forall_bool, -Bool.exists_bool]
 split at hx
 ·rename_i e;subst e;simp at hx
  obtain⟨⟨rfl,rfl,rfl⟩,rfl⟩:=hx
  simp[bq,bp,ga, -Bool.forall_bool, -Bool.exists_bool]
 split at hx
 ·rename_i e;subst e;simp at hx
  obtain⟨⟨rfl,rfl⟩,rfl⟩:=hx
  simp[bq,bp,ga, -Bool.forall_bool, -Bool.exists_bool]
 split at hx
 ·rename_i e;subst e;simp at hx
  obtain⟨⟨rfl,rfl,hav⟩,rfl⟩:=hx
  by_cases ha:arg=ga
  ·have hv:=hav.resolve_left fun h=> h ha
   subst ha;subst hv
   simp[bq,bp,ga, -Bool.forall_bool, -Bool.exists_bool]
  ·have ha': ¬arg=⟨#[]⟩:=ha
   simp[bq,bp,ga,ha', -Bool.forall_bool, -Bool.exists_bool]
 split at hx
 ·rename_i e;subst e;simp at hx
  obtain⟨⟨rfl,rfl,rfl,rfl,rfl⟩,hk⟩:=hx
  simp[bq,bp,ga,hk, -Bool.forall_bool, -Bool.exists_bool]
 split at hx
 ·rename_i e
  simp at hx
  obtain⟨⟨rfl,rfl,rfl,rfl,rfl⟩,hk1,hk2⟩:=hx
  have q1: (2:Int)≤(ks.length:Int):=by omega
  have q2: (ks.length:Int)≤60:=by omega
  have q3: (ks.length:Int)≤9223372036854775807:=by omega
  rcases e with rfl | rfl <;> simp[bq,bp,ga,q1,q2,q3, -Bool.forall_bool, -Bool.exists_bool]
 ·cases hx
end Go.Gv
