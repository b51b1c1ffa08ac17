/- A part of the framework and of the walks: W150 V50 V51 V52 V53 V54 V3 V55 W151. -/
import Derived.Laws.RangeString
import Derived.Test.YticbieanhfdnoaaGreatDoorGc23
import Derived.Test.YticbieanhfdnoaaGreatDoorGc21
import Derived.Test.YticbieanhfdnoaaGreatDoorGc28
set_option linter.unusedSimpArgs false
set_option linter.unusedVariables false
set_option maxRecDepth 100000

namespace Go.Gv
open Cod (enc dec)
variable {S S0:Nat→Spc}
def FunOn {X Y:Type} [Cod X] [Cod Y] (S:Nat→Spc) (d:D) (l:List X) (p:X→Y):Prop:=
 ∃g caps pc,d= .clo g caps∧S g= .pure pc∧ ∀x∈l,pc.pre (enc x::caps)∧ ∀r,pc.post (enc x::caps) r→r=enc (p x)
theorem FunOn.useB {X:Type} [Cod X] {S:Nat→Spc} {d:D} {l:List X} {p:X→Bool} (h:FunOn S d l p) {x:X} (hx:x∈l) {d':Nat} {H:aa} {K:D→aa→Prop} (hk: ∀y:Bool,(∀q:X→Bool,FunOn S d l q→y=q x)→K (.v (.bool y)) H):wE S d d' [enc x] H K:=by
 obtain⟨g,caps,pc,rfl,h1,h2⟩:=h
 simp only[wE,h1,Spc.pt]
 refine⟨(h2 x hx).1,fun r hr=> ?_⟩
 have e:=(h2 x hx).2 r hr
 rw[e]
 refine hk (p x) fun q hq=> ?_
 obtain⟨g',caps',pc',e',k1,k2⟩:=hq
 cases e'
 rw[h1] at k1
 cases k1
 exact bU (e.symm.trans ((k2 x hx).2 r hr))
theorem mR {X Y Z:Type} [Cod X] [Cod Y] {S:Nat→Spc} {g:Nat} {caps:List D} {A:gK Z} {pre:Z→Prop} {post:Z→Y→Prop} {l:List X} {p:X→Y} {f:X→Z} (h:S g=cv A pre enc post) (hd: ∀x∈l,A.dec (enc x::caps)=some (f x)) (hp: ∀x∈l,pre (f x)) (hq: ∀x∈l,∀y,post (f x) y→y=p x):FunOn S (.clo g caps) l p:=by
 refine⟨g,caps,_,rfl,h,fun x hx=> ⟨⟨f x,hd x hx,hp x hx⟩,fun r hr=> ?_⟩⟩
 obtain⟨y,h1,h2⟩:=hr (f x) (hd x hx) (hp x hx)
 rw[h1,hq x hx y h2]
def Fq {X:Type} [Cod X] (S0:Nat→Spc) (x:List X×D×Unit):Prop:= ∃p:X→Bool,FunOn S0 x.2.1 x.1 p
def OQ {X:Type} [Cod X] (S0:Nat→Spc) (x:List X×D×Unit) (y:Int):Prop:= ∀p:X→Bool,FunOn S0 x.2.1 x.1 p→y=lc x.1 p
def QK {X:Type} [Cod X] (S0:Nat→Spc) (x:List X×D×Unit) (y:Bool):Prop:= ∀p:X→Bool,FunOn S0 x.2.1 x.1 p→y=x.1.any p
abbrev vN (X:Type) [Cod X] (S0:Nat→Spc):Spc:=cv (aE (List X) (aD a0)) (Fq S0) (enc (X:=Int)) (OQ S0)
abbrev yH (X:Type) [Cod X] (S0:Nat→Spc):Spc:=cv (aE (List X) (aD a0)) (Fq S0) (enc (X:=Bool)) (QK S0)
theorem zI:aN dH dz S (aE (List Attr) (aD a0)) (Fq S) (enc (X:=Int)) (OQ S):=by
 rintro⟨l,d,⟨⟩⟩ ⟨p,hp⟩
 simp only at hp
 simp[dH,dz, -Bool.forall_bool, -Bool.exists_bool]
 intro _
 refine aq (X:=Unit) [0,1] [] l.length (fun k _=> ∀p:Attr→Bool,FunOn S d l p→ ∀x∈l.take k,p x=false) (fun _=> []) (fun _=> []) () (by simp) (by simp) (by omega) (by simp) (by simp) (by simp) (by simp) (by simp) ?_ ?_
 ·intro k _ hk hP
  obtain⟨x,hx⟩: ∃x,l[k]?=some x:=⟨_,List.getElem?_eq_getElem hk⟩
  obtain⟨_,hgx⟩:=List.getElem?_eq_some_iff.1 hx
  simp[hk,hx,hgx, -Bool.forall_bool, -Bool.exists_bool]
  refine hp.useB (x:=x) (List.mem_of_getElem? hx) fun y hy=> ?_
  simp[-Bool.forall_bool, -Bool.exists_bool]
  refine⟨fun h=> ?_,fun h p' hp'=> ?_⟩
  ·intro p' hp'
   exact(qx hx (by rw[←hy p' hp',h]) (hP p' hp')).symm
  ·rw[dM hx]
   intro z hz
   rcases List.mem_append.1 hz with hz | hz
   ·exact hP p' hp' z hz
   ·simp at hz;subst hz;rw[←hy p' hp',h]
 ·intro _ hP
  simp[-Bool.forall_bool, -Bool.exists_bool]
  intro p' hp'
  exact(k9 (by simpa using hP p' hp')).symm
theorem CQ:aN e8 eW S (aE (List Cond) (aD a0)) (Fq S) (enc (X:=Int)) (OQ S):=by
 rintro⟨l,d,⟨⟩⟩ ⟨p,hp⟩
 simp only at hp
 simp[e8,eW, -Bool.forall_bool, -Bool.exists_bool]
 intro _
 refine aq (X:=Unit) [0,1] [] l.length (fun k _=> ∀p:Cond→Bool,FunOn S d l p→ ∀x∈l.take k,p x=false) (fun _=> []) (fun _=> []) () (by simp) (by simp) (by omega) (by simp) (by simp) (by simp) (by simp) (by simp) ?_ ?_
 ·intro k _ hk hP
  obtain⟨x,hx⟩: ∃x,l[k]?=some x:=⟨_,List.getElem?_eq_getElem hk⟩
  obtain⟨_,hgx⟩:=List.getElem?_eq_some_iff.1 hx
  simp[hk,hx,hgx, -Bool.forall_bool, -Bool.exists_bool]
  have e:D.agg [.v (.int .i64 x.op), .v (.string x.name), .v (.string x.arg), .v (.string x.val), .v (.string x.lab), .v (.bool x.fold), .list 7 (x.kids.map enc)]=enc x:=by simp
  rw[e]
  refine hp.useB (x:=x) (List.mem_of_getElem? hx) fun y hy=> ?_
  simp[-Bool.forall_bool, -Bool.exists_bool]
  refine⟨fun h=> ?_,fun h p' hp'=> ?_⟩
  ·intro p' hp'
   exact(qx hx (by rw[←hy p' hp',h]) (hP p' hp')).symm
  ·rw[dM hx]
   intro z hz
   rcases List.mem_append.1 hz with hz | hz
   ·exact hP p' hp' z hz
   ·simp at hz;subst hz;rw[←hy p' hp',h]
 ·intro _ hP
  simp[-Bool.forall_bool, -Bool.exists_bool]
  intro p' hp'
  exact(k9 (by simpa using hP p' hp')).symm
theorem CR (h1:S bG=vN Cond S0):aN dY dW S (aE (List Cond) (aD a0)) (Fq S0) (enc (X:=Bool)) (QK S0):=by
 rintro⟨l,d,⟨⟩⟩ hp
 simp[dY,dW,h1, -Bool.forall_bool, -Bool.exists_bool]
 refine⟨hp,fun y hy p' hp'=> ?_⟩
 rw[hy p' hp']
 exact wx p' l
theorem Md:aN fy fe S (aE (List Int) (aD a0)) (Fq S) (enc (X:=Int)) (OQ S):=by
 rintro⟨l,d,⟨⟩⟩ ⟨p,hp⟩
 simp only at hp
 simp[fy,fe, -Bool.forall_bool, -Bool.exists_bool]
 intro _
 refine aq (X:=Unit) [0,1] [] l.length (fun k _=> ∀p:Int→Bool,FunOn S d l p→ ∀x∈l.take k,p x=false) (fun _=> []) (fun _=> []) () (by simp) (by simp) (by omega) (by simp) (by simp) (by simp) (by simp) (by simp) ?_ ?_
 ·intro k _ hk hP
  obtain⟨x,hx⟩: ∃x,l[k]?=some x:=⟨_,List.getElem?_eq_getElem hk⟩
  obtain⟨_,hgx⟩:=List.getElem?_eq_some_iff.1 hx
  simp[hk,hx,hgx, -Bool.forall_bool, -Bool.exists_bool]
  refine hp.useB (x:=x) (List.mem_of_getElem? hx) fun y hy=> ?_
  simp[-Bool.forall_bool, -Bool.exists_bool]
  refine⟨fun h=> ?_,fun h p' hp'=> ?_⟩
  ·intro p' hp'
   exact(qx hx (by rw[←hy p' hp',h]) (hP p' hp')).symm
  ·rw[dM hx]
   intro z hz
   rcases List.mem_append.1 hz with hz | hz
   ·exact hP p' hp' z hz
   ·simp at hz;subst hz;rw[←hy p' hp',h]
 ·intro _ hP
  simp[-Bool.forall_bool, -Bool.exists_bool]
  intro p' hp'
  exact(k9 (by simpa using hP p' hp')).symm
theorem Me (h1:S cV=vN Int S0):aN ek ed S (aE (List Int) (aD a0)) (Fq S0) (enc (X:=Bool)) (QK S0):=by
 rintro⟨l,d,⟨⟩⟩ hp
 simp[ek,ed,h1, -Bool.forall_bool, -Bool.exists_bool]
 refine⟨hp,fun y hy p' hp'=> ?_⟩
 rw[hy p' hp']
 exact wx p' l
theorem FL:aN ej eb S (aE (List Region) (aD a0)) (Fq S) (enc (X:=Int)) (OQ S):=by
 rintro⟨l,d,⟨⟩⟩ ⟨p,hp⟩
 simp only at hp
 simp[ej,eb, -Bool.forall_bool, -Bool.exists_bool]
 intro _
 refine aq (X:=Unit) [0,1] [] l.length (fun k _=> ∀p:Region→Bool,FunOn S d l p→ ∀x∈l.take k,p x=false) (fun _=> []) (fun _=> []) () (by simp) (by simp) (by omega) (by simp) (by simp) (by simp) (by simp) (by simp) ?_ ?_
 ·intro k _ hk hP
  obtain⟨x,hx⟩: ∃x,l[k]?=some x:=⟨_,List.getElem?_eq_getElem hk⟩
  obtain⟨_,hgx⟩:=List.getElem?_eq_some_iff.1 hx
  simp[hk,hx,hgx, -Bool.forall_bool, -Bool.exists_bool]
  refine hp.useB (x:=x) (List.mem_of_getElem? hx) fun y hy=> ?_
  simp[-Bool.forall_bool, -Bool.exists_bool]
  refine⟨fun h=> ?_,fun h p' hp'=> ?_⟩
  ·intro p' hp'
   exact(qx hx (by rw[←hy p' hp',h]) (hP p' hp')).symm
  ·rw[dM hx]
   intro z hz
   rcases List.mem_append.1 hz with hz | hz
   ·exact hP p' hp' z hz
   ·simp at hz;subst hz;rw[←hy p' hp',h]
 ·intro _ hP
  simp[-Bool.forall_bool, -Bool.exists_bool]
  intro p' hp'
  exact(k9 (by simpa using hP p' hp')).symm
theorem FM (h1:S cy=vN Region S0):aN dI dA S (aE (List Region) (aD a0)) (Fq S0) (enc (X:=Bool)) (QK S0):=by
 rintro⟨l,d,⟨⟩⟩ hp
 simp[dI,dA,h1, -Bool.forall_bool, -Bool.exists_bool]
 refine⟨hp,fun y hy p' hp'=> ?_⟩
 rw[hy p' hp']
 exact wx p' l
end Go.Gv

namespace Go.Gv
open Cod (enc dec)
structure U64 where
 val:Int
deriving DecidableEq
instance:Cod U64 where
 wd:=1
 enc n:= .v (.int .u64 n.val)
 dec | .v (.int .u64 n)=> some ⟨n⟩ | _=> none
 kn _:=rfl
 wid _:=rfl
 dec_enc _:=rfl
 le d x h:=by
  split at h
  ·cases h;exact .same _
  ·cases h
@[simp] theorem Ya (n:U64):enc n= .v (.int .u64 n.val):=id rfl
@[simp] theorem Zc:Cod.wd U64=1:=id rfl
@[simp] theorem Yh (n:Int):dec (X:=U64) (.v (.int .u64 n))=some ⟨n⟩:=id rfl
@[simp] theorem X4 (n:U64):U64.mk n.val=n:=id rfl
structure Rng where
 fr:I32
 to:I32
deriving DecidableEq
instance:Cod Rng where
 wd:=2
 enc s:= .agg [enc s.fr,enc s.to]
 dec | .agg [x0,x1]=> (dec x0).bind fun x0=> (dec x1).bind fun x1=> some ⟨x0,x1⟩ | _=> none
 kn _:=rfl
 wid _:=rfl
 dec_enc s:=by simp
 le d x h:=by
  split at h
  ·simp only[Option.bind_eq_some_iff] at h
   obtain⟨x0,h0,x1,h1,h⟩:=h
   cases h
   exact LeL.agg (.cons (Cod.le _ _ h0) (.cons (Cod.le _ _ h1) .nil))
  ·cases h
@[simp] theorem X7 (s:Rng): (Rng.mk s.fr s.to)=s:=id rfl
@[simp] theorem Yd (s:Rng):enc s= .agg [enc s.fr,enc s.to]:=id rfl
@[simp] theorem Zg:Cod.wd Rng=2:=id rfl
@[simp] theorem Yk (x0 x1:D):dec (X:=Rng) (.agg [x0,x1])=((dec x0).bind fun x0=> (dec x1).bind fun x1=> some ⟨x0,x1⟩):=id rfl
structure Rx where
 op:Int
 mn:Int
 mx:Int
 rs:List Rng
 kids:List Rx
mutual
def Bv:Rx→D
 | .mk op mn mx rs ks=> .agg [enc op,enc mn,enc mx,enc rs, .list 5 (qU ks)]
def qU:List Rx→List D
 | []=> []
 | k::ks=> Bv k::qU ks
end
mutual
def Hj:D→Option Rx
 | .agg [x0,x1,x2,x3,x4]=> (dec x0).bind fun op=> (dec x1).bind fun mn=> (dec x2).bind fun mx=> (dec x3).bind fun rs=> (yt x4).bind fun ks=> some (.mk op mn mx rs ks)
 | _=> none
def yt:D→Option (List Rx)
 | .list n es=> if n=5 then sJ es else none
 | .v (.slice none 0 0)=> some []
 | _=> none
def sJ:List D→Option (List Rx)
 | []=> some []
 | d::ds=> (Hj d).bind fun x=> (sJ ds).bind fun xs=> some (x::xs)
end
theorem xQ: ∀l:List Rx,qU l=l.map Bv
 | []=> rfl
 | _::l=> by rw[qU,xQ l];rfl
theorem Ke: ∀c:Rx,(Bv c).kn=true
 | .mk .. => rfl
theorem G9: ∀c:Rx,(Bv c).cells.length=5
 | .mk .. => rfl
mutual
theorem Hi: ∀c:Rx,Hj (Bv c)=some c
 | .mk op mn mx rs ks=> by
   have h:yt (.list 5 (qU ks))=some ks:=by rw[yt,if_pos rfl];exact Dz ks
   simp only[Bv,Hj,Cod.dec_enc,Option.bind_some,h]
theorem Dz: ∀l:List Rx,sJ (qU l)=some l
 | []=> by simp only[qU,sJ]
 | c::l=> by simp only[qU,sJ,Hi c,Dz l,Option.bind_some]
end
mutual
theorem Ki: ∀ (d:D) (c:Rx),Hj d=some c→FrzTo df d (Bv c)
 | .agg [x0,x1,x2,x3,x4],c,h=> by
   simp only[Hj,Option.bind_eq_some_iff,Option.some.injEq] at h
   obtain⟨op,h0,mn,h1,mx,h2,rs,h3,ks,h4,rfl⟩:=h
   rw[Bv]
   exact LeL.agg (.cons (Cod.le _ _ h0) (.cons (Cod.le _ _ h1) (.cons (Cod.le _ _ h2) (.cons (Cod.le _ _ h3) (.cons (Oe x4 ks h4) .nil)))))
theorem Oe: ∀ (d:D) (l:List Rx),yt d=some l→FrzTo df d (.list 5 (qU l))
 | .list n es,l,h=> by
   simp only[yt] at h
   split at h
   ·rename_i hn
    subst hn
    have hl:=Hh es l h
    refine .list hl.1 (fun e he=> ?_) hl.2
    rw[xQ] at he
    obtain⟨x,hx,rfl⟩:=List.mem_map.1 he
    exact⟨Ke x,G9 x⟩
   ·cases h
 | .v (.slice none 0 0),l,h=> by
   simp only[yt,Option.some.injEq] at h
   subst h
   exact .nil _
theorem Hh: ∀ (es:List D) (l:List Rx),sJ es=some l→LeL es (qU l)
 | [],l,h=> by
   simp only[sJ,Option.some.injEq] at h
   subst h
   exact .nil
 | d::ds,l,h=> by
   simp only[sJ,Option.bind_eq_some_iff,Option.some.injEq] at h
   obtain⟨x,h1,xs,h2,rfl⟩:=h
   rw[qU]
   exact .cons (Ki d x h1) (Hh ds xs h2)
end
instance:Cod Rx where
 wd:=5
 enc:=Bv
 dec:=Hj
 kn:=Ke
 wid:=G9
 dec_enc:=Hi
 le:=Ki
theorem LJ (ks:List Rx):D.list 5 (qU ks)=enc ks:=by rw[xQ];rfl
theorem N2 (op mn mx:Int) (rs:List Rng) (ks:List Rx):enc (Rx.mk op mn mx rs ks)= .agg [enc op,enc mn,enc mx,enc rs,enc ks]:=by
 rw[←LJ]
 show Bv _=_
 rw[Bv]
theorem BB: ∀es:List D,sJ es=es.mapM (dec (X:=Rx))
 | []=> by simp[sJ]
 | d::es=> by
   rw[sJ,List.mapM_cons,BB es]
   rfl
theorem Of: ∀d:D,yt d=dec (X:=List Rx) d:=fun d=> by
 unfold yt
 split
 ·rename_i n es
  show _=if n=5 then es.mapM (dec (X:=Rx)) else none
  rw[BB]
 ·rfl
 ·rename_i h1 h2
  show _=(match d with
   | .list n es=> if n=5 then es.mapM (dec (X:=Rx)) else none
   | .v (.slice none 0 0)=> some []
   | _=> none)
  split
  ·exact absurd rfl (h1 _ _)
  ·exact absurd rfl h2
  ·rfl
@[simp] theorem qdd (s:Rx):Rx.mk s.op s.mn s.mx s.rs s.kids=s:=by cases s;rfl
@[simp] theorem qdk (s:Rx):enc s= .agg [enc s.op,enc s.mn,enc s.mx,enc s.rs,enc s.kids]:=by cases s;exact N2 ..
@[simp] theorem qem:Cod.wd Rx=5:=id rfl
@[simp] theorem qds (x0 x1 x2 x3 x4:D):dec (X:=Rx) (.agg [x0,x1,x2,x3,x4])=((dec x0).bind fun x0=> (dec x1).bind fun x1=> (dec x2).bind fun x2=> (dec x3).bind fun x3=> (dec x4).bind fun x4=> some ⟨x0,x1,x2,x3,x4⟩):=by
 show Hj _=_
 simp only[Hj,Of]
end Go.Gv

namespace Go.Gv
open Cod (enc dec)
structure Rp where
 s:B
 pos:Int
 fault:Int
 e:Int
def Rp.bump (p:Rp):Rp:= { p with pos:=p.pos+1 }
def BM (p:Rp):Option Int:=
 if 200 < p.s.size then none else
 if p.pos=p.s.size then some (-1) else
 if 0≤p.pos then match p.s.data[p.pos.toNat]? with
  | some c=> if c.toNat < 128 then some c.toNat else none
  | none=> none
 else none
def P6 (sp:B) (c:Int):Bool:=sp.data.toList.any fun x=> decide ((x.toNat:Int)=c)
def iE (p:Rp) (_:Unit):Option (Rp×I32):=(BM p).map fun c=> (p,⟨c⟩)
def CY (p:Rp) (_:Unit):Option (Rp×Unit):=(BM p).bind fun c=> if 0≤c then some (p.bump,()) else none
def tN (p:Rp) (_:B):Option (Rp× (I32×Bool)):=(BM p).bind fun c=> if c < 0∨c=92 then none else some (p.bump,⟨c⟩,true)
def Kr:B:=⟨#[92,91,93,94,45]⟩
def Gx (p:Rp) (_:Unit):Option (Rp× (I32×Bool)):=(BM p).bind fun c=> if c < 0∨P6 Kr c=true then none else tN p Kr
def MD (fr to:Int):Rx:=⟨1,0,0, [⟨⟨fr⟩,⟨to⟩⟩], []⟩
def mH (out:List Rng) (r:Rng):List Rng:=match out.getLast? with
 | some q=> if r.fr.val≤q.to.val+1 then out.dropLast++ [⟨q.fr,⟨max q.to.val r.to.val⟩⟩] else out++ [r]
 | none=> [r]
def xf (l:List Rng):Bool:=match l with
 | [x]=> decide (0≤x.fr.val∧x.fr.val≤1114111∧0≤x.to.val∧x.to.val≤1114111)
 | [x,y]=> decide (0≤x.fr.val∧x.fr.val≤1114111∧0≤x.to.val∧x.to.val≤1114111∧0≤y.fr.val∧y.fr.val≤1114111∧0≤y.to.val∧y.to.val≤1114111∧x.fr.val≤y.fr.val)
 | _=> false
def we (l:List Rng):List Rng:=l.foldl mH []
def Om:Nat→Rp→List Rng→Option (Rp×List Rng)
 | 0,_,_=> none
 | n+1,p,l=> (BM p).bind fun c=> if l≠ []∧c=93 then some (p,l) else
   (Gx p ()).bind fun q=> (BM q.1).bind fun d=> if d=45 then none else Om n q.1 (l++ [⟨q.2.1,q.2.1⟩])
def Qw (p:Rp) (_:Unit):Option (Rp× (Rx×Bool)):=(BM p).bind fun a=> if a≠91 then none else(BM p.bump).bind fun c=> if c=94 then none else
 (Om 100 p.bump []).bind fun q=> if xf q.2=true then some (q.1.bump,⟨1,0,0,we q.2, []⟩,true) else none
def UF:B:=⟨#[92,46,91,93,40,41,123,125,124,42,43,63]⟩
def Kx (p:Rp) (_:Unit):Option (Rp× (Rx×Bool)):=(BM p).bind fun c=>
 if c=40 then none else if c=46 then some (p.bump,MD 0 1114111,true) else if c=91 then Qw p () else
 if c≠92∧P6 UF c=true then none else(tN p UF).map fun q=> (q.1,MD q.2.1.val q.2.1.val,q.2.2)
def Cl (c:Int):Option (Int×Int):=if c=42 then some (0, -1) else if c=43 then some (1, -1) else if c=63 then some (0,1) else none
def MQ (p:Rp) (_:Unit):Option (Rp× (Rx×Bool)):=(Kx p ()).bind fun q=> if q.2.2=true then(BM q.1).bind fun c=> if c=123 then none else match Cl c with
 | some m=> (BM q.1.bump).bind fun d=> if d=123∨(Cl d).isSome=true then none else some (q.1.bump,⟨4,m.1,m.2, [], [q.2.1]⟩,true)
 | none=> some (q.1,q.2.1,true)
 else none
def Hu:Nat→Rp→List Rx→Option (Rp×List Rx)
 | 0,_,_=> none
 | n+1,p,l=> (BM p).bind fun c=> if c < 0∨c=124∨c=41 then some (p,l) else
   (MQ p ()).bind fun q=> if q.2.1.op=2 then none else Hu n q.1 (l++ [q.2.1])
def IK (op:Int):List Rx→Rx
 | [e]=> e
 | l=> ⟨op,0,0, [],l⟩
def Oq (p:Rp) (_:Unit):Option (Rp× (Rx×Bool)):=(Hu 100 p []).map fun q=> (q.1,IK 2 q.2,true)
def Mj:Nat→Rp→List Rx→Option (Rp×List Rx)
 | 0,_,_=> none
 | n+1,p,l=> (Oq p ()).bind fun q=> (BM q.1).bind fun c=>
   if q.2.1.op=3 then none else if c=124 then Mj n q.1.bump (l++ [q.2.1]) else some (q.1,l++ [q.2.1])
def Pn (p:Rp) (_:Unit):Option (Rp× (Rx×Bool)):=(Mj 100 p []).map fun q=> (q.1,IK 3 q.2,true)
end Go.Gv

namespace Go.Gv
open Cod (enc dec)
def UA (f:Rx→Int→Int→Option (Bool×Int)) (d:Int):List Rx→Int→Option (Bool×Int)
 | [],k=> some (true,k)
 | x::l,k=> (f x (d+1) k).bind fun r=> if r.1=true then UA f d l r.2 else some (false,r.2)
def lV:Nat→Rx→Int→Int→Option (Bool×Int)
 | 0=> fun _ _ _=> none
 | n+1=> fun x d k=> if d < 0∨1000 < d∨k < 0∨1000 < k then none else if 40 < d∨200 < k+1 then some (false,k+1) else UA (lV n) d x.kids (k+1)
def JQ (l:List Rng):Bool:=match l with
 | [r]=> decide (0≤r.fr.val∧r.fr.val≤r.to.val∧r.to.val≤1114111)
 | _=> false
def UR (x:Rx):Bool:=
 if x.op=1 then decide (x.mn=0∧x.mx=0) && x.kids.isEmpty && JQ x.rs else
 if x.op=2 then decide (x.mn=0∧x.mx=0) && x.rs.isEmpty && decide (x.kids.length≠1∧x.kids.length≤300) && x.kids.all fun k=> decide (k.op≠2) else
 if x.op=3 then decide (x.mn=0∧x.mx=0) && x.rs.isEmpty && decide (1 < x.kids.length∧x.kids.length≤300) && x.kids.all fun k=> decide (k.op≠3) else
 if x.op=4 then decide (0≤x.mn∧x.mn≤16∧(x.mx= -1∨x.mn≤x.mx∧x.mx≤16)) && x.rs.isEmpty && decide (x.kids.length=1) else false
def La:Nat→Rx→Bool
 | 0=> fun _=> false
 | n+1=> fun x=> UR x && x.kids.all (La n)
def UM (f:Rx→Option Int):List Rx→Int→Option Int
 | [],k=> some k
 | x::l,k=> (f x).bind fun y=> if k < 0∨1000 < k∨y < 0∨1000 < y then none else UM f l (min (k+y) 65)
def UO (x:Rx) (m:Int):Option Int:=
 if x.mx= -1 then(if -1000000≤m*max x.mn 1∧m*max x.mn 1≤1000000 then some (min (m*max x.mn 1) 65) else none)
 else if -1000000≤m*x.mx∧m*x.mx≤1000000 then some (min (m*x.mx) 65) else none
def AA:Nat→Rx→Option Int
 | 0=> fun _=> none
 | n+1=> fun x=> if x.op=1 then some 1 else(UM (AA n) x.kids 0).bind fun m=> if x.op≠4 then some m else UO x m
def tY (n:Nat) (x:Rx):Bool:=(match lV n x 1 0 with | some r=> r.1 | none=> false) && La n x && (match AA n x with | some m=> decide (m≤64) | none=> false)
def qR (s:B):Bool:=s.data.toList.all fun c=> decide (c.toNat < 128)
def mb (s:B):Option Rx:=if s.size≤200∧qR s=true then(Pn ⟨s,0,0,0⟩ ()).bind fun q=> if q.2.2=true∧q.1.pos=s.size∧tY 50 q.2.1=true then some q.2.1 else none else none
end Go.Gv

namespace Go.Gv
open Cod (enc dec)
structure Prt where
 first:U64
 last:U64
 nul:Bool
deriving DecidableEq
instance:Cod Prt where
 wd:=3
 enc s:= .agg [enc s.first,enc s.last,enc s.nul]
 dec | .agg [x0,x1,x2]=> (dec x0).bind fun x0=> (dec x1).bind fun x1=> (dec x2).bind fun x2=> some ⟨x0,x1,x2⟩ | _=> none
 kn _:=rfl
 wid _:=rfl
 dec_enc s:=by simp
 le d x h:=by
  split at h
  ·simp only[Option.bind_eq_some_iff] at h
   obtain⟨x0,h0,x1,h1,x2,h2,h⟩:=h
   cases h
   exact LeL.agg (.cons (Cod.le _ _ h0) (.cons (Cod.le _ _ h1) (.cons (Cod.le _ _ h2) .nil)))
  ·cases h
@[simp] theorem X8 (s:Prt): (Prt.mk s.first s.last s.nul)=s:=id rfl
@[simp] theorem Ye (s:Prt):enc s= .agg [enc s.first,enc s.last,enc s.nul]:=id rfl
@[simp] theorem Yl (x0 x1 x2:D):dec (X:=Prt) (.agg [x0,x1,x2])=((dec x0).bind fun x0=> (dec x1).bind fun x1=> (dec x2).bind fun x2=> some ⟨x0,x1,x2⟩):=id rfl
structure Tbk where
 lvs:List (List Rng)
 fi:U64
 la:U64
 fol:List U64
 nul:Bool
def LT (m:U64) (i:Nat):Bool:=decide (Js .u64 (MB .u64 m.val i) 1=1)
def PG (a b:U64):U64:=⟨UQ .u64 a.val b.val⟩
def JX (fr to:U64):Nat→List U64→List U64
 | _, []=> []
 | i,f::l=> (if LT fr i=true then PG f to else f)::JX fr to (i+1) l
def wh (t:Tbk) (z:U64×U64):Option (Tbk×Unit):=if t.fol.length≤100000 then some ({ t with fol:=JX z.1 z.2 0 t.fol },()) else none
def Vb (a b:Prt):Prt:=⟨if a.nul=true then PG a.first b.first else a.first,if b.nul=true then PG b.last a.last else b.last,a.nul && b.nul⟩
def qX (t:Tbk) (z:Prt×Prt):Option (Tbk×Prt):=(wh t (z.1.last,z.2.first)).map fun q=> (q.1,Vb z.1 z.2)
def uy:Prt:=⟨⟨0⟩,⟨0⟩,true⟩
def ZP:Prt:=⟨⟨0⟩,⟨0⟩,false⟩
def VJ (f:Tbk→Rx→Option (Tbk×Prt)):List Rx→Tbk→Prt→Option (Tbk×Prt)
 | [],t,p=> some (t,p)
 | x::l,t,p=> (f t x).bind fun q=> (qX q.1 (p,q.2)).bind fun r=> VJ f l r.1 r.2
def Un (f:Tbk→Rx→Option (Tbk×Prt)):List Rx→Tbk→Prt→Option (Tbk×Prt)
 | [],t,p=> some (t,p)
 | x::l,t,p=> (f t x).bind fun q=> Un f l q.1 ⟨PG p.first q.2.first,PG p.last q.2.last,p.nul || q.2.nul⟩
def EC (t:Tbk):Bool:=decide (t.lvs.length≤1000∧t.fol.length≤1000)
def SO (b r:Tbk→Rx→Option (Tbk×Prt)) (t:Tbk) (x:Rx):Option (Tbk×Prt):=
 if EC t=false∨1000 < x.kids.length then none else
 if x.op=1 then some ({ t with lvs:=t.lvs++ [x.rs],fol:=t.fol++ [⟨0⟩] },⟨⟨F8 .u64 1 t.lvs.length⟩,⟨F8 .u64 1 t.lvs.length⟩,false⟩) else
 if x.op=2 then VJ b x.kids t uy else
 if x.op=3 then Un b x.kids t ZP else r t x
def UG (b:Tbk→Rx→Option (Tbk×Prt)) (y:Rx) (mx:Int):Nat→Tbk→Prt→Option (Tbk×Prt×Bool)
 | 0,t,p=> some (t,p,false)
 | k+1,t,p=> if EC t=false then none else(b t y).bind fun q=> if EC q.1=false then none else
   if q.1.lvs.length=t.lvs.length then some (q.1,uy,true) else
   (if mx < 0∧k=0 then wh q.1 (q.2.last,q.2.first) else some (q.1,())).bind fun l=> (qX l.1 (p,q.2)).bind fun r=> UG b y mx k r.1 r.2
def MR (b:Tbk→Rx→Option (Tbk×Prt)) (o:Tbk→Rx×Int→Option (Tbk×Prt)) (t:Tbk) (x:Rx):Option (Tbk×Prt):=match x.kids with
 | []=> none
 | y::_=> if x.mn < 0∨100 < x.mn∨x.mx < -1∨100 < x.mx then none else
   (UG b y x.mx x.mn.toNat t uy).bind fun q=> if q.2.2=true then some (q.1,uy) else
   if x.mx < 0∧x.mn=0 then(b q.1 y).bind fun r=> (wh r.1 (r.2.last,r.2.first)).map fun l=> (l.1, { r.2 with nul:=true }) else
   if x.mn < x.mx then(o q.1 (y,x.mx -x.mn)).bind fun r=> qX r.1 (q.2.1,r.2) else some (q.1,q.2.1)
def RW (b:Tbk→Rx→Option (Tbk×Prt)) (o:Tbk→Rx×Int→Option (Tbk×Prt)) (t:Tbk) (z:Rx×Int):Option (Tbk×Prt):=
 if z.2 < 0∨100 < z.2∨EC t=false then none else
 if z.2=0 then some (t,uy) else
 (b t z.1).bind fun q=> if EC q.1=false then none else
 if q.1.lvs.length=t.lvs.length then some (q.1,uy) else
 (o q.1 (z.1,z.2 -1)).bind fun r=> (qX r.1 (q.2,r.2)).map fun l=> (l.1, { l.2 with nul:=true })
structure qhz where
 b:Tbk→Rx→Option (Tbk×Prt)
 r:Tbk→Rx→Option (Tbk×Prt)
 o:Tbk→Rx×Int→Option (Tbk×Prt)
def ve:Nat→qhz
 | 0=> ⟨fun _ _=> none,fun _ _=> none,fun _ _=> none⟩
 | n+1=> ⟨SO (ve n).b (ve n).r,MR (ve n).b (ve n).o,RW (ve n).b (ve n).o⟩
def qg3:Tbk:=⟨[],⟨0⟩,⟨0⟩, [],false⟩
def Pq (n:Nat) (x:Rx):Option Tbk:=((ve n).b qg3 x).map fun q=> { q.1 with fi:=q.2.first,la:=q.2.last,nul:=q.2.nul }
def Q3 (set:U64):Nat→List U64→U64→U64
 | _, [],m=> m
 | i,f::l,m=> Q3 set (i+1) l (if LT set i=true then PG m f else m)
def sk (t:Tbk) (set:U64) (beg:Bool):U64:=if beg=true then t.fi else Q3 set 0 t.fol ⟨0⟩
end Go.Gv

namespace Go.Gv
open Cod (enc dec)
def Fd (l:List Rng) (c:Int):Bool:=l.any fun r=> decide (r.fr.val≤c) && decide (c≤r.to.val)
def TF (next:U64) (c:I32):Nat→List (List Rng)→U64→U64
 | _, [],m=> m
 | i,l::ls,m=> TF next c (i+1) ls (if LT next i && Fd l c.val then⟨UQ .u64 m.val (F8 .u64 1 i)⟩ else m)
def Pk (next:U64) (lvs:List (List Rng)):List I32→U64→U64
 | [],m=> m
 | v::vs,m=> Pk next lvs vs (TF next v 0 lvs m)
def UY (t:Tbk) (vf:I32→List I32):List I32→U64→Bool→Bool
 | [],set,beg=> (beg && t.nul) || decide (Js .u64 set.val t.la.val≠0)
 | c::l,set,beg=> if(Pk (sk t set beg) t.lvs (vf c) ⟨0⟩).val=0 then false else UY t vf l (Pk (sk t set beg) t.lvs (vf c) ⟨0⟩) false
def low (c:Int):Int:=if 65≤c∧c≤90 then c+32 else c
def Bl (c:I32):List I32:=([⟨low c.val⟩,⟨low c.val -32⟩,⟨low c.val -80⟩]:List I32).filter fun v=> decide (0≤v.val∧low v.val=low c.val)
def HY (f:Bool) (c:I32):List I32:=if f=true then Bl c else[c]
def Qx (l:List UInt8):List I32:=l.map fun c=> ⟨(c.toNat:Int)⟩
def uz (x:Rx) (s:B) (f:Bool):Option Bool:=if tY 50 x=true∧qR s=true∧s.size≤1000 then(Pq 50 x).bind fun t=> if EC t=true then some (UY t (HY f) (Qx s.data.toList) ⟨0⟩ true) else none else none
end Go.Gv

namespace Go.Gv
instance:Inhabited Cond:=⟨⟨0,⟨#[]⟩,⟨#[]⟩,⟨#[]⟩,⟨#[]⟩,false, []⟩⟩
instance:Inhabited Fp:=⟨⟨0,default,⟨#[]⟩,⟨#[]⟩,0,0, []⟩⟩
mutual
def cA:Cond→Nat | .mk _ _ _ _ _ _ ks=> fD ks+1
def fD:List Cond→Nat | []=> 0 | k::ks=> max (cA k) (fD ks)
end
theorem zw (p:Cond):cA p=fD p.kids+1:=by cases p;rw[cA]
theorem th {k:Cond} : ∀ {ks:List Cond},k∈ks→cA k≤fD ks
 | a::ks,h=> by
   rw[fD]
   rcases List.mem_cons.1 h with rfl | h
   ·omega
   ·have:=th h;omega
theorem HB {p k:Cond} (h:k∈p.kids):cA k < cA p:=by have:=th h;rw[zw p];omega
end Go.Gv

namespace Go.Gv
open Cod (enc dec)
mutual
def dx:Cond→Nat | .mk _ _ _ _ _ _ ks=> cU ks+1
def cU:List Cond→Nat | []=> 0 | k::ks=> dx k+cU ks
end
theorem mG (x:Cond):dx x=cU x.kids+1:=by cases x;rw[dx]
theorem pp: ∀ (a b:List Cond),cU (a++b)=cU a+cU b
 | [],b=> by rw[List.nil_append,cU];omega
 | k::a,b=> by rw[List.cons_append,cU,cU,pp a b];omega
theorem DI: ∀ (a b:List Cond),fD (a++b)=max (fD a) (fD b)
 | [],b=> by rw[List.nil_append,fD];omega
 | k::a,b=> by rw[List.cons_append,fD,fD,DI a b];omega
theorem xD: ∀ {ks:List Cond} {k:Cond},k∈ks→dx k≤cU ks
 | x::ks,k,h=> by
   rw[cU]
   rcases List.mem_cons.1 h with rfl | h
   ·omega
   ·have:=xD h;omega
theorem Lf {ks:List Cond} {k:Nat} {x:Cond} (h:ks[k]?=some x):cU (ks.take (k+1))=cU (ks.take k) +dx x∧fD (ks.take (k+1))=max (fD (ks.take k)) (cA x)∧cU (ks.take k) +dx x≤cU ks:=by
 have e:=dM h
 refine⟨by rw[e,pp,cU,cU];omega,by rw[e,DI,fD,fD];omega,?_⟩
 conv=> rhs;rw[←List.take_append_drop (k+1) ks,pp]
 rw[e,pp,cU,cU]
 omega
def gE:B:=⟨#[]⟩
def jP (a:List Attr) (n:B):Int:=lc a fun x=> decide (x.nm=n)
def qA (a:List Attr) (n:B):Int:=if n=gE then min 0 ((a.length:Int) -1) else jP a n
def Kw (c:UInt8):Bool:=(decide (65≤c.toNat) && decide (c.toNat≤90)) || (decide (97≤c.toNat) && decide (c.toNat≤122)) || decide (c.toNat=95)
def qc8 (c:UInt8):Bool:=Kw c || (decide (48≤c.toNat) && decide (c.toNat≤57)) || decide (c.toNat=45)
def xz (s:B):Bool:=decide (1≤s.size∧s.size≤32) && (match s.data.toList with | c::_=> Kw c | []=> false) && s.data.toList.all qc8
def sj (s:B):Bool:=decide (s.size≤120) && s.data.toList.all fun c=> decide (32≤c.toNat∧c.toNat < 127)
def RM (x:Cond):Bool:=
 if x.op=1 then decide (x.name=gE∧x.arg=gE∧x.val=gE∧x.lab=gE∧x.fold=false) && x.kids.isEmpty else
 if x.op=2 then decide (x.arg=gE∧x.lab=gE) && x.kids.isEmpty else
 if x.op=3 then decide (x.arg=gE∧x.lab=gE∧x.fold=false) && x.kids.isEmpty else
 if x.op=4 then decide (x.val=gE∧x.fold=false) && x.kids.isEmpty else
 if x.op=5 then decide (x.lab=gE∧x.fold=false∧(x.arg=gE→x.val=gE)) && x.kids.isEmpty else
 if x.op=6 then decide (x.name=gE∧x.arg=gE∧x.val=gE∧x.lab=gE∧x.fold=false) && decide (x.kids.length=1) else
 if x.op=7∨x.op=8 then decide (x.name=gE∧x.arg=gE∧x.val=gE∧x.lab=gE∧x.fold=false) && decide (2≤x.kids.length∧x.kids.length≤60) else false
def Q8 (a:List Attr) (x:Cond):Bool:=
 if x.op=2 then decide (0≤qA a x.name) else
 if x.op=3 then decide (0≤jP a x.name) else
 if x.op=4 then decide (0≤jP a x.name∧0≤jP a x.arg) else
 if x.op=5 then xz x.name && (decide (x.arg=gE) || xz x.arg) else true
def QG (s:B):Bool:=s.data.toList.any fun c=> decide (c.toNat=124)
def Yu (a:List Attr) (lb:List B) (x:Cond):Bool:=
 if x.op=2 then(mb x.val).isSome else
 if x.op=3 then(match a[(jP a x.name).toNat]? with | some b=> b.st | none=> false) && decide (x.val≠gE) && !QG x.val && sj x.val else
 if x.op=4 then lb.any fun l=> decide (l=x.lab) else
 if x.op=5 then sj x.val else true
def kR (a:List Attr) (lb:List B) (x:Cond):Bool:=RM x && Q8 a x && Yu a lb x
def lF (a:List Attr) (lb:List B):Nat→Cond→Bool
 | 0=> fun _=> false
 | n+1=> fun x=> kR a lb x && x.kids.all (lF a lb n)
def LZ (a:List Attr) (lb:List B) (x:Cond):Bool:=decide (dx x≤60∧cA x≤20) && lF a lb 20 x
end Go.Gv

namespace Go.Gv
open Cod (enc dec)
variable {S S0:Nat→Spc}
theorem jI {X:Type} {l:List X} {k:Nat} (h:k < l.length): ∃x,l[k]?=some x:=⟨_,List.getElem?_eq_getElem h⟩
def Ud (n:Nat) (x:Cond×Int×Int):Prop:=cA x.1≤n∧0≤x.2.1∧x.2.1+dx x.1≤60∧0≤x.2.2∧x.2.2+cA x.1≤1000∧cA x.1≤60
abbrev Am (n:Nat):Spc:=cv (a3 Cond Int Int) (Ud n) (tG (Y:=Int) (Z:=Int)) fun x y=> y=(x.2.1+dx x.1,x.2.2+cA x.1 -1)
abbrev rQ:Spc:=cv (a3 Cond Int Int) (fun x=> ∃n,Ud n x) (tG (Y:=Int) (Z:=Int)) fun x y=> y=(x.2.1+dx x.1,x.2.2+cA x.1 -1)
theorem rG (n:Nat) (h1:S aS=Am n):aN iu gS S (a3 Cond Int Int) (Ud (n+1)) (tG (Y:=Int) (Z:=Int)) fun x y=> y=(x.2.1+dx x.1,x.2.2+cA x.1 -1):=by
 rintro⟨x,nodes,deep⟩ ⟨hn,h0,h2,h3,h4,h5⟩
 simp only at hn h0 h2 h3 h4 h5
 have hd1:=zw x
 have hn1:=mG x
 simp[iu,gS]
 refine⟨by simp only[InR];omega,fun hkl=> ?_⟩
 refine aq (X:=Int×Int) [2,17] [] x.kids.length (fun k z=> z.1=nodes+1+ (cU (x.kids.take k):Int)∧z.2=deep+ (fD (x.kids.take k):Int)) (fun z=> [(1,enc z.1),(8,enc z.2)]) (fun _=> []) (nodes+1,deep) (by simp) (by simp) (by omega) (by simp) (by simp) (by simp[cU,fD]) (by simp) (by simp) ?_ ?_
 ·rintro k ⟨m,d⟩ hk ⟨e1,e2⟩
  simp only at e1 e2
  obtain⟨y,hy⟩:=jI hk
  obtain⟨_,hgy⟩:=List.getElem?_eq_some_iff.1 hy
  have hm:=Lf hy
  have hd:=th (List.mem_of_getElem? hy)
  have hp:Ud n (y,m,deep+1):=⟨by show cA y≤n;omega,by show 0≤m;omega,by show m+dx y≤60;omega,by show 0≤deep+1;omega,by show deep+1+cA y≤1000;omega,by show cA y≤60;omega⟩
  have hm60: ¬60 < m:=by have:=mG y;omega
  simp[h1,hk,hy,hgy,hp,hm60]
  exact⟨by simp only[InR];omega,by omega,by rw[hm.2.1,e2];omega⟩
 ·rintro⟨m,d⟩ ⟨e1,e2⟩
  simp only at e1 e2
  rw[List.take_length] at e1 e2
  simp
  exact⟨by omega,by omega⟩
abbrev mW:Spc:=cv (a1 Cond) (fun x=> dx x≤60∧cA x≤60) (enc (X:=Bool)) fun _ y=> y=false
theorem vq (h1:S aS=rQ):aN jD jt S (a1 Cond) (fun x=> dx x≤60∧cA x≤60) (enc (X:=Bool)) fun _ y=> y=false:=by
 rintro x ⟨hn,hd⟩
 have hp: ∃n,Ud n (x,0,1):=⟨cA x,Nat.le_refl _,Int.le_refl _,by show(0:Int) +dx x≤60;omega,by show(0:Int)≤1;omega,by show(1:Int) +cA x≤1000;omega,hd⟩
 simp[jD,jt,h1,hp, -Bool.forall_bool, -Bool.exists_bool]
 omega
abbrev xo:Spc:=cv (a1 Cond) (fun x=> RM x=true) (enc (X:=Bool)) fun _ y=> y=true
set_option maxHeartbeats 1000000 in
theorem tU:aN bD bC S (a1 Cond) (fun x=> RM x=true) (enc (X:=Bool)) fun _ y=> y=true:=by
 rintro⟨op,name,arg,val,lab,fold,ks⟩ hx
 have hx:RM ⟨op,name,arg,val,lab,fold,ks⟩=true:=hx
 unfold RM at hx
 simp only at hx
 split at hx
 ·rename_i e;subst e;simp at hx
  obtain⟨⟨rfl,rfl,rfl,rfl,rfl⟩,rfl⟩:=hx
  simp[bD,bC,gE, -Bool.forall_bool, -Bool.exists_bool]
 split at hx
 ·rename_i e;subst e;simp at hx
  obtain⟨⟨rfl,rfl⟩,rfl⟩:=hx
  simp[bD,bC,gE, -Bool.forall_bool, -Bool.exists_bool]
 split at hx
 ·rename_i e;subst e;simp at hx
  obtain⟨⟨rfl,rfl,rfl⟩,rfl⟩:=hx
  simp[bD,bC,gE, -Bool.forall_bool, -Bool.exists_bool]
 split at hx
 ·rename_i e;subst e;simp at hx
  obtain⟨⟨rfl,rfl⟩,rfl⟩:=hx
  simp[bD,bC,gE, -Bool.forall_bool, -Bool.exists_bool]
 split at hx
 ·rename_i e;subst e;simp at hx
  obtain⟨⟨rfl,rfl,hav⟩,rfl⟩:=hx
  by_cases ha:arg=gE
  ·have hv:=hav.resolve_left fun h=> h ha
   subst ha;subst hv
   simp[bD,bC,gE, -Bool.forall_bool, -Bool.exists_bool]
  ·have ha': ¬arg=⟨#[]⟩:=ha
   simp[bD,bC,gE,ha', -Bool.forall_bool, -Bool.exists_bool]
 split at hx
 ·rename_i e;subst e;simp at hx
  obtain⟨⟨rfl,rfl,rfl,rfl,rfl⟩,hk⟩:=hx
  simp[bD,bC,gE,hk, -Bool.forall_bool, -Bool.exists_bool]
 split at hx
 ·rename_i e
  simp at hx
  obtain⟨⟨rfl,rfl,rfl,rfl,rfl⟩,hk1,hk2⟩:=hx
  have q1: (2:Int)≤(ks.length:Int):=by omega
  have q2: (ks.length:Int)≤60:=by omega
  have q3: (ks.length:Int)≤9223372036854775807:=by omega
  rcases e with rfl | rfl <;> simp[bD,bC,gE,q1,q2,q3, -Bool.forall_bool, -Bool.exists_bool]
 ·cases hx
end Go.Gv
