/- A part of the framework and of the walks: T8 T9. -/
import Derived.Test.YtphdikcommfnhaaGreatDoorGa15
set_option linter.unusedSimpArgs false
set_option linter.unusedVariables false

namespace Go.Gv
structure ay (P:Program) (f:Nat) (im:List Nat) (cc:CC) (rs:List ar) (N:Nat):Prop where
 KM:P.follows .mixedOrders=true
 enter:fg P f
 ex: ∃fn code,P.funcs[f]?=some fn/\fn.body=some code/\fn.ntmps=N/\aZ P im N code=some (cu cc)/\fn.results.toList.mapM (iQ P)=some rs
section
variable {P:Program} {S:Nat->Spc} {f:Nat} {im:List Nat} {cc:CC} {rs:List ar} {N:Nat}
def Sj {X:Type} (dec:List D->Option X) (pre:X->Prop) (post:X->D->Prop):Spc:=
 .pure { pre:=fun ds=> ∃x,dec ds=some x/\pre x,post:=fun ds r=> ∀x,dec ds=some x->pre x->post x r }
theorem Rw {X:Type} {dec:List D->Option X} {pre:X->Prop} {post:X->D->Prop} {d:Nat} {ds:List D} {H:aa} {K:D->aa->Prop} (x:X) (h:dec ds=some x) (hp:pre x)
 (hk: ∀r,post x r->K r H): (Sj dec pre post).pt d ds H K:=⟨⟨x,h,hp⟩,fun r hr=> hk r (hr x h hp)⟩
theorem RD (hS: ∀f,Tri P f (S f).pt) (h:ay P f im cc rs N) {X:Type} {dec:List D->Option X} {view:X->List D} {pre:X->Prop} {post:X->D->Prop}
 (hle: ∀ds x,dec ds=some x->LeL ds (view x)) (hN: ∀x,(view x).length<=N)
 (hv: ∀x,pre x->vc S cc (rF rs fun r H'=> ∃r',FrzTo H' r r'/\post x r') (fY (view x)) ed):Tri P f (Sj dec pre post).pt:=by
 obtain⟨KM,enter,fn,code,h1,h2,h3,h4,h5⟩:=h
 refine mE hS KM h1 h2 enter h3 h4 h5 ?_
 rintro ds H d K ⟨⟨x,hd,hp⟩,hK⟩
 have hl:=hle ds x hd
 refine⟨by rw[hl.1];exact hN x,view x,ed,id,hl,fun i r h=> by simp[ed] at h,fun i j r s h=> by simp[ed] at h,_,hv x hp,?_⟩
 rintro r H' ⟨r',hf,hpost⟩
 refine⟨r',H',H,fun _=> none,hf,fun j q h=> ⟨h,fun i=> by simp⟩,hK r' (fun y hy _=> ?_),fun i s hi=> ⟨hi,fun k q h=> by simp[ed] at h⟩,fun i j k s q _ _ h=> by cases h⟩
 rw[hd] at hy
 cases hy
 exact hpost
end
end Go.Gv

namespace Go.Gv
class Cod (X:Type) where
 wd:Nat
 enc:X->D
 dec:D->Option X
 kn: ∀x,(enc x).kn=true
 wid: ∀x,(enc x).cells.length=wd
 dec_enc: ∀x,dec (enc x)=some x
 le: ∀d x,dec d=some x->FrzTo ed d (enc x)
open Cod (enc dec)
instance:Cod Int where
 wd:=1
 enc n:= .v (.int .i64 n)
 dec | .v (.int .i64 n)=> some n | _=> none
 kn _:=rfl
 wid _:=rfl
 dec_enc _:=rfl
 le d x h:=by
  split at h
  ·cases h;exact .same _
  ·cases h
instance:Cod Bool where
 wd:=1
 enc n:= .v (.bool n)
 dec | .v (.bool n)=> some n | _=> none
 kn _:=rfl
 wid _:=rfl
 dec_enc _:=rfl
 le d x h:=by
  split at h
  ·cases h;exact .same _
  ·cases h
instance:Cod ByteArray where
 wd:=1
 enc n:= .v (.string n)
 dec | .v (.string n)=> some n | _=> none
 kn _:=rfl
 wid _:=rfl
 dec_enc _:=rfl
 le d x h:=by
  split at h
  ·cases h;exact .same _
  ·cases h
theorem KQ {X:Type} {f:D->Option X} : ∀ {es:List D} {l:List X},es.mapM f=some l->es.length=l.length/\ ∀ (k:Nat) (c:D) (x:X),es[k]?=some c->l[k]?=some x->f c=some x
 | [],l,h=> by
   simp at h
   subst h
   exact⟨rfl,fun k c x h=> by simp at h⟩
 | d::es,l,h=> by
   rw[List.mapM_cons] at h
   simp only[Option.bind_eq_bind,Option.bind_eq_some_iff] at h
   obtain⟨y,hy,r,hr,h⟩:=h
   cases h
   have ih:=KQ hr
   refine⟨by simp[ih.1],fun k c x h1 h2=> ?_⟩
   cases k with
   | zero=> simp at h1 h2;subst h1;subst h2;exact hy
   | succ k=> simp at h1 h2;exact ih.2 k c x h1 h2
theorem zn {X:Type} [Cod X]: ∀ (l:List X),(l.map enc).mapM (dec (X:=X))=some l
 | []=> by simp
 | x::l=> by rw[List.map_cons,List.mapM_cons,Cod.dec_enc,zn l];rfl
instance {X:Type} [Cod X]:Cod (List X) where
 wd:=1
 enc l:= .list (Cod.wd X) (l.map enc)
 dec
  | .list n es=> if n=Cod.wd X then es.mapM (dec (X:=X)) else none
  | .v (.slice none 0 0)=> some []
  | _=> none
 kn _:=rfl
 wid _:=rfl
 dec_enc l:=by
  show(if _ then _ else _)=_
  rw[if_pos rfl]
  exact zn l
 le d l h:=by
  split at h
  ·split at h
   ·rename_i n es hn
    subst hn
    obtain⟨h1,h2⟩:=KQ h
    refine .list (by simp[h1]) (fun e he=> ?_) (fun k c c' hc hc'=> ?_)
    ·obtain⟨x,hx,rfl⟩:=List.mem_map.1 he
     exact⟨Cod.kn x,Cod.wid x⟩
    ·rw[List.getElem?_map] at hc'
     cases hx:l[k]? with
     | none=> rw[hx] at hc';cases hc'
     | some x=>
       rw[hx] at hc'
       cases hc'
       exact Cod.le c x (h2 k c x hc hx)
   ·cases h
  ·cases h;exact .nil _
  ·cases h
theorem WH (n:Int):enc n= .v (.int .i64 n):=rfl
theorem TG (b:Bool):enc b= .v (.bool b):=rfl
theorem WG (s:ByteArray):enc s= .v (.string s):=rfl
def Zl:List D->Option Unit
 | []=> some ()
 | _=> none
def Zk {X:Type} [Cod X]:List D->Option X
 | [a]=> dec a
 | _=> none
def Zj {X Y:Type} [Cod X] [Cod Y]:List D->Option (X×Y)
 | [a,b]=> (dec a).bind fun x=> (dec b).bind fun y=> some (x,y)
 | _=> none
def Zi {X Y Z:Type} [Cod X] [Cod Y] [Cod Z]:List D->Option (X×Y×Z)
 | [a,b,c]=> (dec a).bind fun x=> (dec b).bind fun y=> (dec c).bind fun z=> some (x,y,z)
 | _=> none
def Zh {X Y Z W:Type} [Cod X] [Cod Y] [Cod Z] [Cod W]:List D->Option (X×Y×Z×W)
 | [a,b,c,d]=> (dec a).bind fun x=> (dec b).bind fun y=> (dec c).bind fun z=> (dec d).bind fun w=> some (x,y,z,w)
 | _=> none
theorem LeL.nil:LeL [] []:=⟨rfl,fun k d d' h=> by simp at h⟩
theorem LeL.cons {d d':D} {ds ds':List D} (h:FrzTo ed d d') (hs:LeL ds ds'):LeL (d::ds) (d'::ds'):=
 ⟨by simp[hs.1],fun k e e' h1 h2=> by
  cases k with
  | zero=> simp at h1 h2;subst h1;subst h2;exact h
  | succ k=> simp at h1 h2;exact hs.2 k e e' h1 h2⟩
theorem LeL.agg {ds ds':List D} (h:LeL ds ds'):FrzTo ed (.agg ds) (.agg ds'):= .agg h.1 h.2
theorem qm0: ∀ds (x:Unit),Zl ds=some x->LeL ds []:=by
 intro ds x h
 unfold Zl at h
 split at h
 ·exact .nil
 ·cases h
theorem qmZ {X:Type} [Cod X]: ∀ds (x:X),Zk ds=some x->LeL ds [enc x]:=by
 intro ds x h
 unfold Zk at h
 split at h
 ·exact .cons (Cod.le _ _ h) .nil
 ·cases h
theorem qmY {X Y:Type} [Cod X] [Cod Y]: ∀ds (x:X×Y),Zj ds=some x->LeL ds [enc x.1,enc x.2]:=by
 intro ds x h
 unfold Zj at h
 split at h
 ·simp only[Option.bind_eq_some_iff] at h
  obtain⟨a,ha,b,hb,h⟩:=h
  cases h
  exact .cons (Cod.le _ _ ha) (.cons (Cod.le _ _ hb) .nil)
 ·cases h
theorem qmX {X Y Z:Type} [Cod X] [Cod Y] [Cod Z]: ∀ds (x:X×Y×Z),Zi ds=some x->LeL ds [enc x.1,enc x.2.1,enc x.2.2]:=by
 intro ds x h
 unfold Zi at h
 split at h
 ·simp only[Option.bind_eq_some_iff] at h
  obtain⟨a,ha,b,hb,c,hc,h⟩:=h
  cases h
  exact .cons (Cod.le _ _ ha) (.cons (Cod.le _ _ hb) (.cons (Cod.le _ _ hc) .nil))
 ·cases h
theorem qmW {X Y Z W:Type} [Cod X] [Cod Y] [Cod Z] [Cod W]: ∀ds (x:X×Y×Z×W),Zh ds=some x->LeL ds [enc x.1,enc x.2.1,enc x.2.2.1,enc x.2.2.2]:=by
 intro ds x h
 unfold Zh at h
 split at h
 ·simp only[Option.bind_eq_some_iff] at h
  obtain⟨a,ha,b,hb,c,hc,d,hd,h⟩:=h
  cases h
  exact .cons (Cod.le _ _ ha) (.cons (Cod.le _ _ hb) (.cons (Cod.le _ _ hc) (.cons (Cod.le _ _ hd) .nil)))
 ·cases h
def bH:List (Nat×Spc)->Nat->Spc
 | [],_=> .none
 | (g,c)::l,f=> if f=g then c else bH l f
theorem Kg (P:Program) (f:Nat):Tri P f (Spc.none).pt:=fun _ _ _ _ _ _ _ _ _ _ _ _ _ h=> h.elim
theorem ag {P:Program} : ∀ {l:List (Nat×Spc)},(∀p∈l,Tri P p.1 p.2.pt)-> ∀f,Tri P f (bH l f).pt
 | [],_,f=> Kg P f
 | (g,c)::l,h,f=> by
  unfold bH
  split
  ·rename_i e
   subst e
   exact h (f,c) (by simp)
  ·exact ag (fun p hp=> h p (by simp[hp])) f
theorem ac {P:Program} : ∀p∈ ([]:List (Nat×Spc)),Tri P p.1 p.2.pt:=fun p h=> by cases h
theorem ab {P:Program} {f:Nat} {c:Spc} {l:List (Nat×Spc)} (h:Tri P f c.pt) (hl: ∀p∈l,Tri P p.1 p.2.pt): ∀p∈ (f,c)::l,Tri P p.1 p.2.pt:=fun p hp=> by
 rcases List.mem_cons.1 hp with rfl | hp
 ·exact h
 ·exact hl p hp
theorem QS {X:Type} [Cod X] {H:aa} {id el:Nat} {x:Value} {l:List X} (h:H id=some (.row x el (Cod.wd X) (l.map enc))):FrzTo H (.own id x) (enc l):=
 .row h rfl (fun d hd=> by obtain⟨y,_,rfl⟩:=List.mem_map.1 hd;exact⟨Cod.kn y,Cod.wid y⟩) (fun k c c' h1 h2=> by rw[h1] at h2;cases h2;exact .same _)
end Go.Gv
