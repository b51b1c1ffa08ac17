/- V52 -/
import Derived.Laws.RangeString
import Derived.Test.YtnffegdacbdhmaaGreatDoorGd16
set_option linter.all false
set_option maxRecDepth 100000
set_option maxHeartbeats 0
open Bool renaming forall_bool → fB', exists_bool → eB'
namespace Go.Gv
open Cod (enc dec)
def qpe(f:Rx->Int->Int->Option (Bool×Int))(d:Int):List Rx->Int->Option (Bool×Int)
 | [],k=>some (true,k)
 |x::l,k=>(f x (d+1) k).bind λr=>if r.1=true then qpe f d l r.2 else some (false,r.2)
def wv:Nat->Rx->Int->Int->Option (Bool×Int)
 | 0=>λ_ _ _=>none
 |n+1=>λx d k=>if d< 0\/1000<d\/k< 0\/1000<k then none else if 40<d\/200<k+1 then some (false,k+1)else qpe (wv n) d x.kids (k+1)
def qav(l:List Rng):Bool:=match l with
 | [r]=>decide (0<=r.fr.val/\r.fr.val<=r.to.val/\r.to.val<=1114111)
 | _=>false
def qpx(x:Rx):Bool:=
 if x.op=1 then decide (x.mn=0/\x.mx=0) && x.kids.isEmpty && qav x.rs else
 if x.op=2 then decide (x.mn=0/\x.mx=0) && x.rs.isEmpty && decide (x.kids.length≠1/\x.kids.length<=300) && x.kids.all λk=>decide (k.op≠2)else
 if x.op=3 then decide (x.mn=0/\x.mx=0) && x.rs.isEmpty && decide (1<x.kids.length/\x.kids.length<=300) && x.kids.all λk=>decide (k.op≠3)else
 if x.op=4 then decide (0<=x.mn/\x.mn<=16/\(x.mx= -1\/x.mn<=x.mx/\x.mx<=16)) && x.rs.isEmpty && decide (x.kids.length=1)else false
def qcb:Nat->Rx->Bool
 | 0=>λ_=>false
 |n+1=>λx=>qpx x && x.kids.all (qcb n)
def qpt(f:Rx->Option Int):List Rx->Int->Option Int
 | [],k=>some k
 |x::l,k=>(f x).bind λy=>if k< 0\/1000<k\/y< 0\/1000<y then none else qpt f l (min (k+y) 65)
def qpv(x:Rx)(m:Int):Option Int:=
 if x.mx= -1 then(if -1000000<=m*max x.mn 1/\m*max x.mn 1<=1000000 then some (min (m*max x.mn 1) 65)else none)
 else if -1000000<=m*x.mx/\m*x.mx<=1000000 then some (min (m*x.mx) 65)else none
def Mo:Nat->Rx->Option Int
 | 0=>λ_=>none
 |n+1=>λx=>if x.op=1 then some 1 else(qpt (Mo n) x.kids 0).bind λm=>if x.op≠4 then some m else qpv x m
def DV(n:Nat)(x:Rx):Bool:=(match wv n x 1 0 with|some r=>r.1|none=>false) && qcb n x && (match Mo n x with|some m=>decide (m<=64)|none=>false)
def Ah(s:B):Bool:=s.data.toList.all λc=>decide (c.toNat< 128)
def ox(s:B):Option Rx:=if s.size<=200/\Ah s=true then(qiw ⟨s,0,0,0⟩ ()).bind λq=>if q.2.2=true/\q.1.pos=s.size/\DV 50 q.2.1=true then some q.2.1 else none else none
structure Prt where
 first:U64
 last:U64
 nul:Bool
deriving DecidableEq
instance:Cod Prt where
 wd:=3
 enc s:= .agg [enc s.first,enc s.last,enc s.nul]
 dec| .agg [x0,x1,x2]=>(dec x0).bind λx0=>(dec x1).bind λx1=>(dec x2).bind λx2=>some ⟨x0,x1,x2⟩|_=>none
 kn _:=rfl
 wid _:=rfl
 dec_enc s:=by simp
 le d x h:=by
  split at h
  ·simp only[qzU]at h;obtain⟨x0,h0,x1,h1,x2,h2,h⟩:=h;cases h;exact LeL.agg (.cons (Cod.le _ _ h0) (.cons (Cod.le _ _ h1) (.cons (Cod.le _ _ h2) .nil)))
  ·cases h
@[simp] theorem qtt(s:Prt):(Prt.mk s.first s.last s.nul)=s:=i' rfl
@[simp] theorem qtB(s:Prt):enc s= .agg [enc s.first,enc s.last,enc s.nul]:=i' rfl
@[simp] theorem qtJ(x0 x1 x2:D):dec (X:=Prt) (.agg [x0,x1,x2])=((dec x0).bind λx0=>(dec x1).bind λx1=>(dec x2).bind λx2=>some ⟨x0,x1,x2⟩):=i' rfl
structure Tbk where
 lvs:List (List Rng)
 fi:U64
 la:U64
 fol:List U64
 nul:Bool
def qc9(m:U64)(i:Nat):Bool:=decide (De .u64 (Yt .u64 m.val i) 1=1)
def qi5(a b:U64):U64:=⟨qoc .u64 a.val b.val⟩
def qaF(fr to:U64):Nat->List U64->List U64
 | _, []=>[]
 |i,f::l=>(if qc9 fr i=true then qi5 f to else f)::qaF fr to (i+1) l
def Gw(t:Tbk)(z:U64×U64):Option (Tbk×Unit):=if t.fol.length<=100000 then some ({ t with fol:=qaF z.1 z.2 0 t.fol },())else none
def qpT(a b:Prt):Prt:=⟨if a.nul=true then qi5 a.first b.first else a.first,if b.nul=true then qi5 b.last a.last else b.last,a.nul && b.nul⟩
def Az(t:Tbk)(z:Prt×Prt):Option (Tbk×Prt):=(Gw t (z.1.last,z.2.first)).map λq=>(q.1,qpT z.1 z.2)
def Ew:Prt:=⟨⟨0⟩,⟨0⟩,true⟩
def qvu:Prt:=⟨⟨0⟩,⟨0⟩,false⟩
def qqG(f:Tbk->Rx->Option (Tbk×Prt)):List Rx->Tbk->Prt->Option (Tbk×Prt)
 | [],t,p=>some (t,p)
 |x::l,t,p=>(f t x).bind λq=>(Az q.1 (p,q.2)).bind λr=>qqG f l r.1 r.2
def qdi(f:Tbk->Rx->Option (Tbk×Prt)):List Rx->Tbk->Prt->Option (Tbk×Prt)
 | [],t,p=>some (t,p)
 |x::l,t,p=>(f t x).bind λq=>qdi f l q.1 ⟨qi5 p.first q.2.first,qi5 p.last q.2.last,p.nul||q.2.nul⟩
def Sk(t:Tbk):Bool:=decide (t.lvs.length<=1000/\t.fol.length<=1000)
def qnu(b r:Tbk->Rx->Option (Tbk×Prt))(t:Tbk)(x:Rx):Option (Tbk×Prt):=
 if Sk t=false\/1000<x.kids.length then none else
 if x.op=1 then some ({ t with lvs:=t.lvs++ [x.rs],fol:=t.fol++ [⟨0⟩] },⟨⟨Rr .u64 1 t.lvs.length⟩,⟨Rr .u64 1 t.lvs.length⟩,false⟩)else
 if x.op=2 then qqG b x.kids t Ew else
 if x.op=3 then qdi b x.kids t qvu else r t x
def qpm(b:Tbk->Rx->Option (Tbk×Prt))(y:Rx)(mx:Int):Nat->Tbk->Prt->Option (Tbk×Prt×Bool)
 | 0,t,p=>some (t,p,false)
 | k+1,t,p=>if Sk t=false then none else(b t y).bind λq=>if Sk q.1=false then none else
   if q.1.lvs.length=t.lvs.length then some (q.1,Ew,true)else
   (if mx< 0/\k=0 then Gw q.1 (q.2.last,q.2.first)else some (q.1,())).bind λl=>(Az l.1 (p,q.2)).bind λr=>qpm b y mx k r.1 r.2
def qeW(b:Tbk->Rx->Option (Tbk×Prt))(o:Tbk->Rx×Int->Option (Tbk×Prt))(t:Tbk)(x:Rx):Option (Tbk×Prt):=match x.kids with
 | []=>none
 | y::_=>if x.mn< 0\/100<x.mn\/x.mx< -1\/100<x.mx then none else
   (qpm b y x.mx x.mn.toNat t Ew).bind λq=>if q.2.2=true then some (q.1,Ew)else
   if x.mx< 0/\x.mn=0 then(b q.1 y).bind λr=>(Gw r.1 (r.2.last,r.2.first)).map λl=>(l.1, { r.2 with nul:=true })else
   if x.mn<x.mx then(o q.1 (y,x.mx -x.mn)).bind λr=>Az r.1 (q.2.1,r.2)else some (q.1,q.2.1)
def qmk(b:Tbk->Rx->Option (Tbk×Prt))(o:Tbk->Rx×Int->Option (Tbk×Prt))(t:Tbk)(z:Rx×Int):Option (Tbk×Prt):=
 if z.2< 0\/100<z.2\/Sk t=false then none else
 if z.2=0 then some (t,Ew)else
 (b t z.1).bind λq=>if Sk q.1=false then none else
 if q.1.lvs.length=t.lvs.length then some (q.1,Ew)else
 (o q.1 (z.1,z.2 -1)).bind λr=>(Az r.1 (q.2,r.2)).map λl=>(l.1, { l.2 with nul:=true })
structure qzR where
 b:Tbk->Rx->Option (Tbk×Prt)
 r:Tbk->Rx->Option (Tbk×Prt)
 o:Tbk->Rx×Int->Option (Tbk×Prt)
def EU:Nat->qzR
 | 0=>⟨λ_ _=>none,λ_ _=>none,λ_ _=>none⟩
 |n+1=>⟨qnu (EU n).b (EU n).r,qeW (EU n).b (EU n).o,qmk (EU n).b (EU n).o⟩
def qzg:Tbk:=⟨[],⟨0⟩,⟨0⟩, [],false⟩
def qiz(n:Nat)(x:Rx):Option Tbk:=((EU n).b qzg x).map λq=>{ q.1 with fi:=q.2.first,la:=q.2.last,nul:=q.2.nul }
def qkT(set:U64):Nat->List U64->U64->U64
 | _, [],m=>m
 |i,f::l,m=>qkT set (i+1) l (if qc9 set i=true then qi5 m f else m)
def BH(t:Tbk)(set:U64)(beg:Bool):U64:=if beg=true then t.fi else qkT set 0 t.fol ⟨0⟩
variable {dq:Prop}
section
variable {X Y:Type}[Cod X][Cod Y]
def qwg(pre:X->List Y->Prop)(post:X->List Y->List Y->Prop)(el n:Nat):PT:=λd ds H K=>∃id v l a x,ds=[a, .own id v]/\dec a=some x/\H id=some (.row v el n (l.map enc))/\pre x l/\
 ∀v' l',post x l l'->K (.own id v') (ai H id (some (.row v' el n (l'.map enc))))
def qjz(pre:X->List Y->Prop)(post:X->List Y->List Y->Prop)(el n:Nat):qZ (qwg pre post el n):=λd ds H K K' hk ⟨id,v,l,a,x,h1,h2,h3,h4,h5⟩=>⟨id,v,l,a,x,h1,h2,h3,h4,λv' l' hp=>hk _ _ (h5 v' l' hp)⟩
def qhX(pre:X->List Y->Prop)(post:X->List Y->List Y->Prop)(el n:Nat):Spc:= .gen _ (qjz pre post el n)
def qs6(pre:X->List Y->Prop)(post:X->List Y->List Y->Prop)(el n id:Nat)(v:Value)(o:Option X)(r:Option Res)(H:ab)(K:D->ab->Prop):Prop:=∃l,r=some (.row v el n (l.map enc))/\gY o λx=>pre x l/\∀v' l',post x l l'->K (.own id v') (ai H id (some (.row v' el n (l'.map enc))))
@[congr] theorem qwf{pre:X->List Y->Prop}{post:X->List Y->List Y->Prop}{el n id:Nat}{v:Value}{o o':Option X}{r r':Option Res}{H:ab}{K:D->ab->Prop}(h1:o=o')(h2:r=r'):qs6 pre post el n id v o r H K=qs6 pre post el n id v o' r' H K:=by subst h1;subst h2;rfl
@[simp] theorem qwh(pre:X->List Y->Prop)(post:X->List Y->List Y->Prop)(el n:Nat)(d i:Nat)(a:D)(v:Value)(H:ab)(K:D->ab->Prop):(qhX pre post el n).pt d [a, .own i v] H K=qs6 pre post el n i v (dec a) (H i) H K:=by
 refine propext ⟨λh=>?_,λh=>?_⟩
 ·obtain⟨id,v,l,a,x,h1,h2,h3,h4,h5⟩:=h;cases h1;refine⟨l,h3,?_⟩;rw[h2];exact⟨h4,h5⟩
 ·obtain⟨l,h1,h2⟩:=h;cases hd:dec (X:=X) a with
  |none=>rw[hd]at h2;exact h2.elim
  |some x=>rw[hd]at h2;exact⟨i,v,l,a,x,rfl,hd,h1,h2.1,h2.2⟩
@[simp] theorem qyx(pre:X->List Y->Prop)(post:X->List Y->List Y->Prop)(el n id:Nat)(v:Value)(o:Option X)(l:List Y)(H:ab)(K:D->ab->Prop):qs6 pre post el n id v o (some (.row v el n (l.map enc))) H K=gY o λx=>pre x l/\∀v' l',post x l l'->K (.own id v') (ai H id (some (.row v' el n (l'.map enc)))):=by
 refine propext ⟨λ⟨l',h1,h2⟩=>?_,λh=>⟨l,rfl,h⟩⟩;simp at h1;subst h1;exact h2
def NX(cc:CC)(rs:List ak)(S:Nat->Spc)(pre:X->List Y->Prop)(post:X->List Y->List Y->Prop)(el n:Nat):Prop:=
 ∀v l x,pre x l->vc S cc (vN rs λr H'=>qky el n (post x l) r H') (dC [enc x, .own 1 v]) (ai cY 1 (some (.row v el n (l.map enc))))
variable {P:Program}{S:Nat->Spc}{f:Nat}{im:List Nat}{cc:CC}{rs:List ak}{N:Nat}{el n:Nat}
theorem yB{pre:X->List Y->Prop}{post:X->List Y->List Y->Prop}(hS:∀f,Tri dq P f (S f).pt)(h:Ak P f im cc rs N)(hN:2<=N)(hw:NX cc rs S pre post el n):Tri dq P f (qhX pre post el n).pt:=by
 obtain⟨wQ,enter,fn,code,h1,h2,h3,h4,h5⟩:=h;refine nG hS wQ h1 h2 enter h3 h4 h5 ?_;rintro ds H d K ⟨id,v,l,a,x,rfl,hd,hid,hp,hK⟩;have hl:=Cod.le _ _ hd;refine⟨hN, [enc x, .own 1 v],ai cY 1 (some (.row v el n (l.map enc))),λ_=>id, .cons hl (.cons (.own _ _ _) .nil),λi r h=>?_,λi j r s h h' _=>?_,_,hw v l x hp,?_⟩
 ·by_cases e:i=1
  ·subst e;simp only[ai,if_true]at h;cases h;exact hid
  ·simp[ai,e]at h
 ·have a:i=1:=by
   by_cases e:i=1
   ·exact e
   ·simp[ai,e]at h
  have b:j=1:=by
   by_cases e:j=1
   ·exact e
   ·simp[ai,e]at h'
  exact a.trans b.symm
 ·rintro r H' ⟨j,v',l',rfl,hj,hpost⟩;refine⟨.own id v',cY,ai H id (some (.row v' el n (l'.map enc))),λi=>if i=id then some j else none, .own _ _ _,λj q h=>by simp at h,hK v' l' hpost,λi s hi=>?_,λi j' k s q hi hj' e1 e2=>?_⟩
  ·by_cases e:i=id
   ·subst e;simp only[ai,if_true]at hi;cases hi;simpa using hj
   ·simp only[ai,e,if_false]at hi ⊢;exact⟨hi,λk q h he=>e he.symm⟩
  ·have a:i=id:=by
    by_cases e:i=id
    ·exact e
    ·simp[e]at e1
   have b:j'=id:=by
    by_cases e:j'=id
    ·exact e
    ·simp[e]at e2
   exact a.trans b.symm
end
section
variable {X Y Z:Type}
structure Pk (X:Type) where
 ids:List Nat
 ce:X->List D
 hp:X->List (Nat×Res)
 keys:∀x,(hp x).map (·.1)=ids
def Xt:∀{l:List (Nat×Res)} {i:Nat} {s:Res},gK l cY i=some s->(i,s) ∈l
 | [],i,s,h=>by simp[gK,cY]at h
 | (j,r)::l,i,s,h=>by
  simp only[gK,ai]at h;by_cases e:i=j
  ·subst e;simp only[if_true]at h;cases h;simp
  ·simp only[e,if_false]at h;exact qBx _ (Xt h)
def Xu:∀{l:List (Nat×Res)} {H:ab} {i:Nat} {s:Res},i∈l.map (·.1)->gK l H i=some s->(i,s) ∈l
 | (j,r)::l,H,i,s,hi,h=>by
  simp only[gK,ai]at h;by_cases e:i=j
  ·subst e;simp only[if_true]at h;cases h;simp
  ·simp only[e,if_false]at h;simp[e]at hi;refine qBx _ (Xu (H:=H) ?_ h);simpa using hi
def Xs:∀{l:List (Nat×Res)} {H:ab} {i:Nat},i∉l.map (·.1)->gK l H i=H i
 | [],H,i,_=>rfl
 | (j,r)::l,H,i,hi=>by
  simp only[qAo,qAc,not_or]at hi;simp only[gK,ai,hi.1,if_false];exact Xs hi.2
def qxt(B:Pk X)(A:fT Z)(er:Y->D)(pre:X->Z->Prop)(post:X->Z->X->Y->Prop):PT:=λd ds H K=>∃id b x z ds',ds= .bptr id b 0::ds'/\A.dec ds'=some z/\H id=some (.box b (B.ce x))/\(∀p∈B.hp x,H p.1=some p.2)/\id∉B.ids/\pre x z/\
 ∀x' y,post x z x' y->K (er y) (ai (gK (B.hp x') H) id (some (.box b (B.ce x'))))
def qkg(B:Pk X)(A:fT Z)(er:Y->D)(pre:X->Z->Prop)(post:X->Z->X->Y->Prop):qZ (qxt B A er pre post):=λd ds H K K' hk ⟨id,b,x,z,ds',h1,h2,h3,h4,h5,h6,h7⟩=>⟨id,b,x,z,ds',h1,h2,h3,h4,h5,h6,λx' y hp=>hk _ _ (h7 x' y hp)⟩
def qqY(B:Pk X)(A:fT Z)(er:Y->D)(pre:X->Z->Prop)(post:X->Z->X->Y->Prop):Spc:= .gen _ (qkg B A er pre post)
def QE(B:Pk X)(er:Y->D)(b:Nat)(post:X->Y->Prop)(r:D)(H:ab):Prop:=∃x y,FrzTo (λi=>if i=0\/i∈B.ids then none else H i) r (er y)/\H 0=some (.box b (B.ce x))/\(∀p∈B.hp x,H p.1=some p.2)/\post x y
def qhv(cc:CC)(rs:List ak)(S:Nat->Spc)(B:Pk X)(A:fT Z)(er:Y->D)(pre:X->Z->Prop)(post:X->Z->X->Y->Prop):Prop:=
 ∀b x z,pre x z->vc S cc (vN rs λr H'=>QE B er b (post x z) r H') (dC (.bptr 0 b 0::A.view z)) (ai (gK (B.hp x) cY) 0 (some (.box b (B.ce x))))
variable {P:Program}{S:Nat->Spc}{f:Nat}{im:List Nat}{cc:CC}{rs:List ak}{N:Nat}
theorem D2{B:Pk X}{A:fT Z}{er:Y->D}{pre:X->Z->Prop}{post:X->Z->X->Y->Prop}(h1i:0∉B.ids)(hS:∀f,Tri dq P f (S f).pt)(h:Ak P f im cc rs N)(hN:∀z,(A.view z).length+1<=N)(hw:qhv cc rs S B A er pre post):Tri dq P f (qqY B A er pre post).pt:=by
 obtain⟨wQ,enter,fn,code,h1,h2,h3,h4,h5⟩:=h;refine nG hS wQ h1 h2 enter h3 h4 h5 ?_;rintro ds H d K ⟨id,b,x,z,ds',rfl,hd,hid,hhp,hni,hp,hK⟩;have hl:=A.le ds' z hd;have h0:∀i r,ai (gK (B.hp x) cY) 0 (some (.box b (B.ce x))) i=some r->i=0/\r= .box b (B.ce x)\/i≠0/\(i,r) ∈B.hp x:=by
  intro i r h;by_cases e:i=0
  ·subst e;simp only[ai,if_true]at h;cases h;exact .inl ⟨rfl,rfl⟩
  ·simp only[ai,e,if_false]at h;exact .inr ⟨e,Xt h⟩
 have hk:∀{x:X} {i:Nat} {r:Res},(i,r) ∈B.hp x->i∈B.ids:=by
  intro x i r h;rw[<-B.keys x];exact qz1.2 ⟨_,h,rfl⟩
 refine⟨by simp only[qAD];rw[hl.1];exact hN z, .bptr 0 b 0::A.view z,ai (gK (B.hp x) cY) 0 (some (.box b (B.ce x))),λi=>if i=0 then id else i, .cons (.bptr _ _ _ _) hl,λi r h=>?_,λi j r s h h' e=>?_,_,hw b x z hp,?_⟩
 ·rcases h0 i r h with⟨rfl,rfl⟩|⟨e,hm⟩
  ·exact hid
  ·simp only[e,if_false];exact hhp _ hm
 ·rcases h0 i r h with⟨rfl,rfl⟩|⟨e1,hm⟩
  ·rcases h0 j s h' with⟨rfl,rfl⟩|⟨e2,hm2⟩
   ·rfl
   ·simp only[e2,if_true,if_false]at e;subst e;exact absurd (hk hm2) hni
  ·rcases h0 j s h' with⟨rfl,rfl⟩|⟨e2,hm2⟩
   ·simp only[e1,if_true,if_false]at e;subst e;exact absurd (hk hm) hni
   ·simpa only[e1,e2,if_false]using e
 ·rintro r H' ⟨x',y,hfr,hj,hhp',hpost⟩;refine⟨er y,λi=>if i=0\/i∈B.ids then none else H' i,ai (gK (B.hp x') H) id (some (.box b (B.ce x'))),λi=>if i=id then some 0 else if i∈B.ids then some i else none,hfr,λj q h=>?_,hK x' y hpost,λi s hi=>?_,λi j' k s q hi hj' e1 e2=>?_⟩
  ·by_cases e:j=0\/j∈B.ids
   ·simp[e]at h
   ·simp only[e,if_false]at h;refine⟨h,λi hh=>e ?_⟩;by_cases e1:i=id
    ·simp only[e1,if_true]at hh;cases hh;exact .inl rfl
    ·simp only[e1,if_false]at hh;by_cases e2:i∈B.ids
     ·simp only[e2,if_true]at hh;cases hh;exact .inr e2
     ·simp[e2]at hh
  ·by_cases e:i=id
   ·subst e;simp only[ai,if_true]at hi;cases hi;simpa using hj
   ·simp only[ai,e,if_false]at hi ⊢;by_cases e2:i∈B.ids
    ·simp only[e2,if_true];exact hhp' _ (Xu (by rw[B.keys];exact e2) hi)
    ·simp only[e2,if_false];rw[Xs (by rw[B.keys];exact e2)]at hi;refine⟨hi,λk q h he=>?_⟩;rcases h0 k q h with⟨rfl,rfl⟩|⟨e3,hm⟩
     ·simp only[if_true]at he;exact e he.symm
     ·simp only[e3,if_false]at he;subst he;exact e2 (hk hm)
  ·by_cases c1:i=id
   ·by_cases c2:j'=id
    ·exact c1.trans c2.symm
    ·simp only[c1,if_true]at e1;cases e1;simp only[c2,if_false]at e2;by_cases c3:j'∈B.ids
     ·simp only[c3,if_true]at e2;cases e2;exact absurd c3 h1i
     ·simp[c3]at e2
   ·simp only[c1,if_false]at e1;by_cases c3:i∈B.ids
    ·simp only[c3,if_true]at e1;cases e1;by_cases c2:j'=id
     ·simp only[c2,if_true]at e2;cases e2;exact absurd c3 h1i
     ·simp only[c2,if_false]at e2;by_cases c4:j'∈B.ids
      ·simp only[c4,if_true]at e2;cases e2;rfl
      ·simp[c4]at e2
    ·simp[c3]at e1
def qc6{X:Type}(ce:X->List D):Pk X:=⟨[],ce,λ_=>[],λ_=>rfl⟩
end
structure qy6 where
 v:Value
 v':Value
 t:Tbk
def tK(v v':Value)(t:Tbk):List D:=[.own 990 v, .v (.int .u64 t.fi.val), .v (.int .u64 t.la.val), .own 991 v', .v (.bool t.nul)]
def pU(v:Value)(l:List (List Rng)):Res:= .row v eR 1 (l.map enc)
def pV(v:Value)(l:List U64):Res:= .row v fP 1 (l.map enc)
def tbB:Pk qy6:=⟨[990,991],λx=>tK x.v x.v' x.t,λx=>[(990,pU x.v x.t.lvs),(991,pV x.v' x.t.fol)],λ_=>rfl⟩
section
variable {Y Z:Type}
def qhU(A:fT Z)(er:Y->D)(F:Tbk->Z->Option (Tbk×Y)):Spc:=qqY tbB A er (λs z=>∃r,F s.t z=some r) (λs z s' y=>F s.t z=some (s'.t,y))
def xX(H:ab)(id b:Nat)(v v':Value)(t:Tbk):ab:=ai (ai (ai H 991 (some (pV v' t.fol))) 990 (some (pU v t.lvs))) id (some (.box b (tK v v' t)))
def Uw(er:Y->D)(F:Tbk->Z->Option (Tbk×Y))(id b:Nat)(r r1 r2:Option Res)(o:Option Z)(H:ab)(K:D->ab->Prop):Prop:=
 ∃v v' t,r=some (.box b (tK v v' t))/\r1=some (pU v t.lvs)/\r2=some (pV v' t.fol)/\id≠990/\id≠991/\gY o λz=>gY (F t z) λq=>∀w w',K (er q.2) (xX H id b w w' q.1)
@[congr] theorem qrM{er:Y->D}{F:Tbk->Z->Option (Tbk×Y)}{id b:Nat}{r r' r1 r1' r2 r2':Option Res}{o o':Option Z}{H:ab}{K:D->ab->Prop}(h1:r=r')(h2:r1=r1')(h3:r2=r2')(h4:o=o'):Uw er F id b r r1 r2 o H K=Uw er F id b r' r1' r2' o' H K:=by subst h1;subst h2;subst h3;subst h4;rfl
def EC{X:Type}[Cod X]:∀{l l':List X},l.map enc=l'.map enc->l=l'
 | [], [],_=>rfl
 | [],_::_,h=>by simp at h
 | _::_, [],h=>by simp at h
 | a::l,b::l',h=>by
   rw[qAo,qAo,qAA]at h;rw[bK h.1,EC h.2]
def qeN{v v':Value}{l l':List (List Rng)}(h:pU v l=pU v' l'):v=v'/\l=l':=by
 unfold pU at h;injection h with h1 h2 h3 h4;exact⟨h1,EC h4⟩
def qeO{v v':Value}{l l':List U64}(h:pV v l=pV v' l'):v=v'/\l=l':=by
 unfold pV at h;injection h with h1 h2 h3 h4;exact⟨h1,EC h4⟩
def qdQ{b b':Nat}{v v' w w':Value}{t t':Tbk}(h:Res.box b (tK v v' t)=Res.box b' (tK w w' t'))(h1:pU v t.lvs=pU w t'.lvs)(h2:pV v' t.fol=pV w' t'.fol):b=b'/\v=w/\v'=w'/\t=t':=by
 obtain⟨e1,e2⟩:=qeN h1;obtain⟨e3,e4⟩:=qeO h2;obtain⟨hb,hc⟩:=Res.box.inj h;simp only[tK,qAA,D.own.injEq,D.v.injEq,Value.int.injEq,Value.bool.injEq,true_and,and_true]at hc;obtain⟨_,⟨c1,c2,_,c3⟩⟩:=hc;refine⟨hb,e1,e3,?_⟩;obtain⟨a1,⟨a2⟩,⟨a3⟩,a4,a5⟩:=t;obtain⟨b1,⟨b2⟩,⟨b3⟩,b4,b5⟩:=t';simp only at e2 e4 c1 c2 c3;subst e2;subst e4;subst c1;subst c2;subst c3;rfl
def qdR(x:qy6)(H:ab)(id b:Nat):ai (gK (tbB.hp x) H) id (some (.box b (tbB.ce x)))=xX H id b x.v x.v' x.t:=by
 rfl
theorem Yn(A:fT Z)(er:Y->D)(F:Tbk->Z->Option (Tbk×Y))(d i b:Nat)(ds:List D)(H:ab)(K:D->ab->Prop):(qhU A er F).pt d (.bptr i b 0::ds) H K=Uw er F i b (H i) (H 990) (H 991) (A.dec ds) H K:=by
 refine propext ⟨λh=>?_,λh=>?_⟩
 ·obtain⟨id,b',x,z,ds',h1,h2,h3,h4,h5,h6,h7⟩:=h;cases h1;simp only[tbB,qAc,qAL,or_false,not_or]at h5;refine⟨x.v,x.v',x.t,h3,h4 (990,pU x.v x.t.lvs) (by simp[tbB]),h4 (991,pV x.v' x.t.fol) (by simp[tbB]),h5.1,h5.2,?_⟩;rw[h2];obtain⟨⟨t',y⟩,hr⟩:=h6;show gY (F x.t z) _;rw[hr];intro w w';have:=h7 ⟨w,w',t'⟩ y hr;rwa [qdR]at this
 ·obtain⟨v,v',t,h1,h2,h3,h4,h5,h6⟩:=h;cases hz:A.dec ds with
  |none=>rw[hz]at h6;exact h6.elim
  | some z=>
    rw[hz]at h6;have h6:gY (F t z) λq=>∀w w',K (er q.2) (xX H i b w w' q.1):=h6
    cases hF:F t z with
    |none=>rw[hF]at h6;exact h6.elim
    | some q=>
      rw[hF]at h6;have h6:∀w w',K (er q.2) (xX H i b w w' q.1):=h6;refine⟨i,b,⟨v,v',t⟩,z,ds,rfl,hz,h1,λp hp=>?_,by simp[tbB,h4,h5],⟨q,hF⟩,λx' y hq=>?_⟩
      ·simp only[tbB,qAc,qAL,or_false]at hp;rcases hp with rfl|rfl
       ·exact h2
       ·exact h3
      ·have hq:F t z=some (x'.t,y):=hq;rw[hF]at hq;cases hq;rw[qdR];exact h6 x'.v x'.v'
theorem qjt(A:fT Z)(er:Y->D)(F:Tbk->Z->Option (Tbk×Y))(b:Nat)(ds:List D):qnN 0 (qhU A er F).pt (.bptr 0 b 0::ds):=by
 refine⟨λR=>Uw er F 0 b (R 0) (R 990) (R 991) (A.dec ds) R λ_ _=>True,λR d u=>∃v v' t z q w w',R 0=some (.box b (tK v v' t))/\R 990=some (pU v t.lvs)/\R 991=some (pV v' t.fol)/\A.dec ds=some z/\F t z=some q/\d=er q.2/\u=[(0, .box b (tK w w' q.1)),(990,pU w q.1.lvs),(991,pV w' q.1.fol)],λt H K=>?_⟩;rw[Yn];have r0:uB H (some 0) 0=H 0:=by simp only[uB];exact if_pos rfl
 have r1:uB H (some 0) 990=H 990:=by simp only[uB];exact if_pos rfl
 have r2:uB H (some 0) 991=H 991:=by simp only[uB];exact if_pos rfl
 show _↔Uw er F 0 b (uB H (some 0) 0) (uB H (some 0) 990) (uB H (some 0) 991) (A.dec ds) (uB H (some 0)) (λ_ _=>True)/\∀d u,(∃v v' t z q w w',uB H (some 0) 0=some (.box b (tK v v' t))/\uB H (some 0) 990=some (pU v t.lvs)/\uB H (some 0) 991=some (pV v' t.fol)/\A.dec ds=some z/\F t z=some q/\d=er q.2/\u=[(0, .box b (tK w w' q.1)),(990,pU w q.1.lvs),(991,pV w' q.1.fol)])->K d (jV H (some 0) u);rw[r0,r1,r2];have hp:∀(w w':Value) (q:Tbk),jV H (some 0) [(0, .box b (tK w w' q)),(990,pU w q.lvs),(991,pV w' q.fol)]=xX H 0 b w w' q:=λw w' q=>by
  funext i;simp only[jV,xX,ai];by_cases h0:i=0
  ·subst h0;rfl
  ·by_cases h1:i=990
   ·subst h1;rfl
   ·by_cases h2:i=991
    ·subst h2;rfl
    ·have e:([(0, .box b (tK w w' q)),(990,pU w q.lvs),(991,pV w' q.fol)]:List (Nat×Res)).lookup i=none:=by
      have e0:(i==0)=false:=by simp[h0]
      have e1:(i==990)=false:=by simp[h1]
      have e2:(i==991)=false:=by simp[h2]
      simp only[List.lookup,e0,e1,e2]
     rw[e,if_neg h0,if_neg h1,if_neg h2];split<;>rfl
 constructor
 ·rintro⟨v,v',t,h1,h2,h3,h4,h5,h6⟩;cases hz:A.dec ds with
  |none=>rw[hz]at h6;exact h6.elim
  | some z=>
    rw[hz]at h6;have h6:gY (F t z) λq=>∀w w',K (er q.2) (xX H 0 b w w' q.1):=h6
    cases hF:F t z with
    |none=>rw[hF]at h6;exact h6.elim
    | some q=>
      rw[hF]at h6;have h6:∀w w',K (er q.2) (xX H 0 b w w' q.1):=h6;refine⟨⟨v,v',t,h1,h2,h3,h4,h5,?_⟩,?_⟩
      ·show gY (F t z) _;rw[hF];exactλ_ _=>trivial
      ·rintro d u ⟨v1,v1',t1,z1,q1,w,w',g1,g2,g3,g4,g5,rfl,rfl⟩;rw[h1]at g1;rw[h2]at g2;rw[h3]at g3;obtain⟨_,_,_,rfl⟩:=qdQ (qAg g1) (qAg g2) (qAg g3);cases g4;rw[hF]at g5;cases g5;rw[hp];exact h6 w w'
 ·rintro⟨⟨v,v',t,h1,h2,h3,h4,h5,h6⟩,h7⟩;refine⟨v,v',t,h1,h2,h3,h4,h5,?_⟩;cases hz:A.dec ds with
  |none=>rw[hz]at h6;exact h6.elim
  | some z=>
    rw[hz]at h6;have h6:gY (F t z) λq=>∀w w':Value,True:=h6
    show gY (F t z) _;cases hF:F t z with
    |none=>rw[hF]at h6;exact h6.elim
    | some q=>
      intro w w';have:=h7 (er q.2) _ ⟨v,v',t,z,q,w,w',h1,h2,h3,hz,hF,rfl,rfl⟩;rwa [hp]at this
def qe4(A:fT Z)(er:Y->D)(F:Tbk->Z->Option (Tbk×Y))(b:Nat)(dst:Option Nat)(ds:List D)(H:ab)(K:D->ab->Prop):PU 0 dst (qhU A er F) (.bptr 0 b 0::ds) H K=Uw er F 0 b (H 0) (H 990) (H 991) (A.dec ds) H K:=by
 rw[<-Yn A er F (dst.getD 0)];exact propext ⟨λh=>h.2,λh=>⟨qjt A er F b ds,h⟩⟩
def qlF(er:Y->D)(F:Tbk->Z->Option (Tbk×Y))(id b:Nat)(v v':Value)(f l:Int)(n:Bool)(lv:List (List Rng))(fo:List U64)(o:Option Z)(H:ab)(K:D->ab->Prop):
 Uw er F id b (some (.box b [.own 990 v, .v (.int .u64 f), .v (.int .u64 l), .own 991 v', .v (.bool n)])) (some (.row v eR 1 (lv.map enc))) (some (.row v' fP 1 (fo.map enc))) o H K=(id≠990/\id≠991/\gY o λz=>gY (F ⟨lv,⟨f⟩,⟨l⟩,fo,n⟩ z) λq=>∀w w',K (er q.2) (xX H id b w w' q.1)):=by
 refine propext ⟨λ⟨w,w',t,h1,h2,h3,h4,h5,h6⟩=>⟨h4,h5,?_⟩,λh=>⟨v,v',⟨lv,⟨f⟩,⟨l⟩,fo,n⟩,rfl,rfl,rfl,h.1,h.2.1,h.2.2⟩⟩;obtain⟨_,_,_,e⟩:=qdQ (t:=⟨lv,⟨f⟩,⟨l⟩,fo,n⟩) (t':=t) (b:=b) (b':=b) (qAg h1) (qAg h2) (qAg h3);subst e;exact h6
def XG(er:Y->D)(b:Nat)(post:Tbk->Y->Prop)(r:D)(H:ab):Prop:=QE tbB er b (λs y=>post s.t y) r H
def qk4{er:Y->D}{b:Nat}{post:Tbk->Y->Prop}{r:D}{H:ab}(v v':Value)(t:Tbk)(y:Y)(hr:FrzTo (λi=>if i=0\/i=990\/i=991 then none else H i) r (er y))(h0:H 0=some (.box b (tK v v' t)))(h1:H 990=some (pU v t.lvs))(h2:H 991=some (pV v' t.fol))(hq:post t y):XG er b post r H:=
 ⟨⟨v,v',t⟩,y,by simpa [tbB]using hr,h0,λp hp=>by
  simp only[tbB,qAc,qAL,or_false]at hp;rcases hp with rfl|rfl
  ·exact h1
  ·exact h2,hq⟩
def Jc(cc:CC)(rs:List ak)(S:Nat->Spc)(A:fT Z)(er:Y->D)(F:Tbk->Z->Option (Tbk×Y)):Prop:=
 ∀b v v' t z r,F t z=some r->vc S cc (vN rs λd H'=>XG er b (λt' y=>r=(t',y)) d H') (dC (.bptr 0 b 0::A.view z)) (xX cY 0 b v v' t)
variable {P:Program}{S:Nat->Spc}{f:Nat}{im:List Nat}{cc:CC}{rs:List ak}{N:Nat}
def ua{A:fT Z}{er:Y->D}{F:Tbk->Z->Option (Tbk×Y)}(hS:∀f,Tri dq P f (S f).pt)(h:Ak P f im cc rs N)(hN:∀z,(A.view z).length+1<=N)(hw:Jc cc rs S A er F):Tri dq P f (qhU A er F).pt:=
 D2 (by simp[tbB]) hS h hN λb x z hp=>by
  obtain⟨r,hr⟩:=hp;rw[qdR];have:=hw b x.v x.v' x.t z r hr;have e:(λ(d:D) (H':ab)=>QE tbB er b (λs' y=>F x.t z=some (s'.t,y)) d H')=λd H'=>XG er b (λt' y=>r=(t',y)) d H':=by
   funext d H';unfold XG;congr 1;funext s' y;rw[hr];exact propext ⟨λh=>qAg h,λh=>congrArg some h⟩
  rw[e];exact this
end
@[simp] theorem quf(m:U64)(i:Nat):decide (De .u64 (Yt .u64 m.val i) 1=1)=qc9 m i:=i' rfl
end Go.Gv
namespace Go.Gv
open Go.Proofs
def Ae:CC:=gq Tryz.f290 [1,2024006,2022006,2020006] { cu:=[1,4],kz:=[990,991] } _
def yV:List ak:=[.tmp 2]
def Sj:FO B1 [1,2024006,2022006,2020006] Ae yV 26:=fo
def lw:CC:=gq Tryz.f327 [] { bx:=[0],kz:=[990,991] } _
def kL:List ak:=[]
def BB:FO gO [] lw kL 31:=fo
def jg:CC:=gq Tryz.f318 [4,5] { ke:=[0],kz:=[990,991] } _
def iL:List ak:=[.cell 6 true 3]
def zn:FO dK [4,5] jg iL 42:=fo
def cO:CC:=gq Tryz.f308 [3,3060000,1031990,2033000,2006006] { bx:=[0],kz:=[990,991] } _
def cL:List ak:=[.cell 4 true 3]
def AM:FO di [3,3060000,1031990,2033000,2006006] cO cL 98:=fo
def je:CC:=gq Tryz.f319 [3,3095000,2005005] { bx:=[0],kz:=[990,991] } _
def iK:List ak:=[.cell 4 true 3]
def zl:FO jK [3,3095000,2005005] je iK 98:=fo
def cW:CC:=gq Tryz.f328 [4,3035000,3036000,2009009] { bx:=[0],kz:=[990,991] } _
def cQ:List ak:=[.cell 6 true 3]
def wN:FO eN [4,3035000,3036000,2009009] cW cQ 39:=fo
def gu:CC:=gq Tryz.f291 [] { ke:=[0],kz:=[990,991] } _
def fY:List ak:=[.tmp 6]
def BC:FO mi [] gu fY 35:=fo
open Cod (enc dec)
variable {S S0:Nat->Spc}
@[simp] theorem qtq(t:Tbk):Tbk.mk t.lvs t.fi t.la t.fol t.nul=t:=i' rfl
abbrev Rw:Spc:=qhU (a2 U64 U64) SQ Gw
def qaE(fr to:U64):∀(l:List U64) (i:Nat),(qaF fr to i l).length=l.length
 | [],_=>rfl
 |f::l,i=>by rw[qaF,qAD,qAD,qaE fr to l (i+1)]
def VU{fr to f:U64} :∀{l:List U64} {i k:Nat},l[k]? =some f->qaF fr to i (l.take k) ++ (if qc9 fr (i+k)=true then qi5 f to else f)::l.drop (k+1)=qaF fr to i (l.take (k+1)) ++l.drop (k+1)
 | [],i,k,h=>by simp at h
 | g::l,i,0,h=>by
   simp at h;subst h;simp[qaF]
 | g::l,i,k+1,h=>by
   simp at h;have:=VU (fr:=fr) (to:=to) (i:=i+1) h;rw[show i+1+k=i+ (k+1)by omega]at this;simp only[qCp,qaF,qAK,qCl];rw[this]
theorem qls:Jc lw kL S (a2 U64 U64) SQ Gw:=by
 rintro b v v' ⟨lv,fi,la,fo,nu⟩ ⟨fr,to⟩ r hF;unfold Gw at hF;simp only at hF;split at hF
 ·rename_i hlen;cases hF;have hl:(fo.length:Int)<=9223372036854775807:=by omega
  simp[lw,kL,xX,pU,pV,tK,hl,-fB',-eB'];refine ah (X:=List U64) [0,1,2] [] fo.length (λk x=>x=qaF fr to 0 (fo.take k) ++fo.drop k) (λx=>[]) (λx=>[(0, .box b [.own 990 v, .v (.int .u64 fi.val), .v (.int .u64 la.val), .own 991 v', .v (.bool nu)]),(990, .row v eR 1 (lv.map enc)),(991, .row v' fP 1 (x.map enc))]) fo (by simp[qaF]) ?_ ?_
  ·rintro k x hk hx;obtain⟨f,hf⟩:∃f,fo[k]? =some f:=⟨_,qzX hk⟩
   have hll:(qaF fr to 0 (fo.take k)).length=k:=by rw[qaE,qAq];omega
   have hxl:x.length=fo.length:=by rw[hx,qAm,hll,qA8];omega
   have hxk:x[k]? =some f:=by
    rw[hx,qz9 (by omega),hll,qBA,qAF];simpa using hf
   have hdr:x.drop (k+1)=fo.drop (k+1):=by
    rw[hx,List.drop_append,hll,List.drop_drop,qBJ (by rw[hll];omega)];simp
   have htk:x.take k=qaF fr to 0 (fo.take k):=by
    rw[hx,List.take_append,hll,qBA,qB6,qA7,qAT (by rw[hll];omega)]
   have hset:∀g,x.set k g=qaF fr to 0 (fo.take k) ++g::fo.drop (k+1):=λg=>by
    rw[qBV,if_pos (by omega),htk,hdr]
   have hst:=VU (fr:=fr) (to:=to) (i:=0) hf;rw[qAG,<-hset]at hst;have hkx:k<x.length:=by omega
   obtain⟨_,hgx⟩:=qzV.1 hxk;simp[hkx,hxk,hgx,hk,hxl,-fB',-eB'];refine⟨λhb=>?_,λhb=>?_⟩
   ·rw[if_pos hb]at hst;left;rw[<-List.map_drop,<-qBt,<-hst,qCe];rfl
   ·rw[if_neg (by simp[hb])]at hst;rw[show x.set k f=x from by rw[<-hgx];exact List.set_getElem_self _]at hst;exact .inl hst
  ·rintro x hx;rw[qAb,qAX,qA7]at hx;subst hx;simp[-fB',-eB'];exact qk4 (er:=SQ) (y:=()) v v' ⟨lv,fi,la,qaF fr to 0 fo,nu⟩ (.same _) rfl rfl rfl rfl
 ·cases hF
attribute [simp] Yn qe4
@[simp] theorem qrL{Y Z:Type}(er:Y->D)(F:Tbk->Z->Option (Tbk×Y))(id b:Nat)(v v':Value)(f l:Int)(n:Bool)(lv:List (List Rng))(fo:List U64)(o:Option Z)(H:ab)(K:D->ab->Prop):
 Uw er F id b (some (.box b [.own 990 v, .v (.int .u64 f), .v (.int .u64 l), .own 991 v', .v (.bool n)])) (some (.row v eR 1 (lv.map enc))) (some (.row v' fP 1 (fo.map enc))) o H K=(id≠990/\id≠991/\gY o λz=>gY (F ⟨lv,⟨f⟩,⟨l⟩,fo,n⟩ z) λq=>∀w w',K (er q.2) (ai (ai (ai H 991 (some (.row w' fP 1 (q.1.fol.map enc)))) 990 (some (.row w eR 1 (q.1.lvs.map enc)))) id (some (.box b [.own 990 w, .v (.int .u64 q.1.fi.val), .v (.int .u64 q.1.la.val), .own 991 w', .v (.bool q.1.nul)])))):=qlF er F id b v v' f l n lv fo o H K
abbrev K2:Spc:=qhU (a2 Prt Prt) (enc (X:=Prt)) Az
def yh{b:Nat}{post:Tbk->Prt->Prop}{d:D}{H:ab}(v v':Value)(t:Tbk)(y:Prt)(hd:d=enc y)(h0:H 0=some (.box b (tK v v' t)))(h1:H 990=some (pU v t.lvs))(h2:H 991=some (pV v' t.fol))(hq:post t y):XG enc b post d H:=
 qk4 (er:=enc) (y:=y) v v' t (by rw[hd];exact .same _) h0 h1 h2 hq
def qdz(h1:S gO=Rw):Jc jg iL S (a2 Prt Prt) (enc (X:=Prt)) Az:=by
 rintro b v v' ⟨lv,fi,la,fo,nu⟩ ⟨⟨af,al,an⟩,⟨bf,bl,bn⟩⟩ r hF;unfold Az at hF;simp only at hF;obtain⟨q,hl,rfl⟩:=qz6.1 hF;cases an<;>cases bn<;>simp[jg,iL,xX,pU,pV,tK,h1,hl,-fB',-eB'] <;>intro b1 w w'<;>exact yh w w' q.1 _ rfl rfl rfl rfl ⟨rfl,rfl⟩
def qfl{set f:U64}{l:List U64}{k:Nat}(h:l[k]? =some f)(m:U64):qkT set k (l.drop k) m=qkT set (k+1) (l.drop (k+1)) (if qc9 set k=true then qi5 m f else m):=by
 obtain⟨h1,h2⟩:=qzV.1 h;rw[qAQ h1,h2,qkT]
abbrev LX(n:Nat):Spc:=qhU (a1 Rx) (enc (X:=Prt)) (EU n).b
abbrev qej(n:Nat):Spc:=qhU (a1 Rx) (enc (X:=Prt)) (EU n).r
abbrev Yx(n:Nat):Spc:=qhU (a2 Rx Int) (enc (X:=Prt)) (EU n).o
def Th{X:Type}{l:List X}{k:Nat}(h:k<l.length):∃x,l[k]? =some x:=⟨_,qzX h⟩
def uY{X:Type}{l:List X}{k:Nat}{x:X}(h:l[k]? =some x):l.drop k=x::l.drop (k+1):=by
 obtain⟨h1,h2⟩:=qzV.1 h;rw[qAQ h1,h2]
set_option maxHeartbeats 1000000 in
theorem qig(n:Nat)(h1:S di=LX n)(h2:S jK=qej n)(h3:S dK=K2):Jc cO cL S (a1 Rx) (enc (X:=Prt)) (EU (n+1)).b:=by
 rintro b v v' t ⟨op,mn,mx,rs,ks⟩ r hF;replace hF:qnu (EU n).b (EU n).r t ⟨op,mn,mx,rs,ks⟩=some r:=hF;unfold qnu at hF;simp only at hF;split at hF
 ·cases hF
 rename_i hok;have hok1:t.lvs.length<=1000/\t.fol.length<=1000:=by
  cases hb:Sk t with
  |true=>exact of_decide_eq_true hb
  |false=>exact absurd (.inl hb) hok
 have hkl:ks.length<=1000:=by
  have:¬1000<ks.length:=λh=>hok (.inr h)
  omega
 obtain⟨hlv,hfo⟩:=hok1;have hkl':(ks.length:Int)<=9223372036854775807:=by omega
 have hlv':(t.lvs.length:Int)<=9223372036854775807:=by omega
 split at hF
 ·rename_i e;subst e;obtain rfl:=qAg hF;simp[cO,cL,xX,pU,pV,tK,hlv',-fB',-eB'];refineλb1=>⟨by omega,by omega,λw=>⟨by omega,by omega,λw'=>?_⟩⟩
  exact yh w w' ⟨t.lvs++ [rs],t.fi,t.la,t.fol++ [⟨0⟩],t.nul⟩ ⟨⟨Rr .u64 1 t.lvs.length⟩,⟨Rr .u64 1 t.lvs.length⟩,false⟩ rfl rfl (by simp[pU,ai]) (by simp[pV,ai]) ⟨rfl,rfl⟩
 rename_i e1;split at hF
 ·rename_i e;subst e;simp[cO,cL,xX,pU,pV,tK,hkl',-fB',-eB'];intro b4 b6;refine ah (X:=Tbk×Prt×Value×Value) [0,4,6,50] [4] ks.length (λk x=>qqG (EU n).b (ks.drop k) x.1 x.2.1=some r) (λx=>[]) (λx=>[(0, .box b [.own 990 x.2.2.1, .v (.int .u64 x.1.fi.val), .v (.int .u64 x.1.la.val), .own 991 x.2.2.2, .v (.bool x.1.nul)]),(990, .row x.2.2.1 eR 1 (x.1.lvs.map enc)),(991, .row x.2.2.2 fP 1 (x.1.fol.map enc)),(6, .box b6 [.v (.int .u64 x.2.1.first.val), .v (.int .u64 x.2.1.last.val), .v (.bool x.2.1.nul)])]) (t,Ew,v,v') (by simpa using hF) ?_ ?_ (hh:=by simp[Ew])
  ·rintro k ⟨t,p,w,w'⟩ hk hx;obtain⟨y,hy⟩:=Th hk;obtain⟨_,hgy⟩:=qzV.1 hy;rw[uY hy,qqG]at hx;obtain⟨q,hq,hx⟩:=qzU.1 hx;obtain⟨c,hc,hx⟩:=qzU.1 hx;simp[hk,hy,hgy,h1,h3,hq,hc,-fB',-eB'];exactλu u'=>⟨c.1,c.2,hx,u,u', .inl ⟨rfl,rfl,rfl,rfl,rfl⟩, .inl ⟨rfl,rfl⟩, .inl ⟨rfl,rfl⟩, .inl ⟨rfl,rfl,rfl⟩⟩
  ·rintro⟨t,p,w,w'⟩ hx;rw[qAX,qqG]at hx;obtain rfl:=qAg hx;simp[-fB',-eB'];exact yh w w' t p rfl rfl rfl rfl ⟨rfl,rfl⟩
 rename_i e2;split at hF
 ·rename_i e;subst e;simp[cO,cL,xX,pU,pV,tK,hkl',-fB',-eB'];intro b4 b9;refine ah (X:=Tbk×Prt×Value×Value) [0,4,9,67] [4] ks.length (λk x=>qdi (EU n).b (ks.drop k) x.1 x.2.1=some r) (λx=>[]) (λx=>[(0, .box b [.own 990 x.2.2.1, .v (.int .u64 x.1.fi.val), .v (.int .u64 x.1.la.val), .own 991 x.2.2.2, .v (.bool x.1.nul)]),(990, .row x.2.2.1 eR 1 (x.1.lvs.map enc)),(991, .row x.2.2.2 fP 1 (x.1.fol.map enc)),(9, .box b9 [.v (.int .u64 x.2.1.first.val), .v (.int .u64 x.2.1.last.val), .v (.bool x.2.1.nul)])]) (t,qvu,v,v') (by simpa using hF) ?_ ?_ (hh:=by simp[qvu])
  ·rintro k ⟨t,p,w,w'⟩ hk hx;obtain⟨y,hy⟩:=Th hk;obtain⟨_,hgy⟩:=qzV.1 hy;rw[uY hy,qdi]at hx;obtain⟨q,hq,hx⟩:=qzU.1 hx;simp[hk,hy,hgy,h1,hq,-fB',-eB'];refineλu u'=>⟨λhn=>⟨q.1,_,hx,u,u', .inl ⟨rfl,rfl,rfl,rfl,rfl⟩, .inl ⟨rfl,rfl⟩, .inl ⟨rfl,rfl⟩, .inl ⟨rfl,rfl,by simp[hn]⟩⟩,λhn=>⟨q.1,_,hx,u,u', .inl ⟨rfl,rfl,rfl,rfl,rfl⟩, .inl ⟨rfl,rfl⟩, .inl ⟨rfl,rfl⟩, .inl ⟨rfl,rfl,by simp[hn]⟩⟩⟩
  ·rintro⟨t,p,w,w'⟩ hx;rw[qAX,qdi]at hx;obtain rfl:=qAg hx;simp[-fB',-eB'];exact yh w w' t p rfl rfl rfl rfl ⟨rfl,rfl⟩
 rename_i e3;simp[cO,cL,xX,pU,pV,tK,h2,e1,e2,e3,hF,-fB',-eB'];intro b1 w w';exact yh w w' r.1 r.2 rfl rfl rfl rfl rfl
def yc{t:Tbk}(h:Sk t≠false):t.lvs.length<=1000/\t.fol.length<=1000:=by
 cases hb:Sk t with
 |true=>exact of_decide_eq_true hb
 |false=>exact absurd hb h
set_option maxHeartbeats 1000000 in
theorem XY(n:Nat)(h1:S di=LX n)(h2:S eN=Yx n)(h3:S dK=K2):Jc cW cQ S (a2 Rx Int) (enc (X:=Prt)) (EU (n+1)).o:=by
 rintro b v v' t ⟨y,m⟩ r hF;replace hF:qmk (EU n).b (EU n).o t ⟨y,m⟩=some r:=hF;unfold qmk at hF;simp only at hF;split at hF
 ·cases hF
 rename_i hok;have hok1:=yc λh=>hok (.inr (.inr h))
 have hm0:0<=m:=by have:¬m< 0:=λh=>hok (.inl h);omega
 have hm1:m<=100:=by have:¬100<m:=λh=>hok (.inr (.inl h));omega
 obtain⟨hlv,hfo⟩:=hok1;have hlv':(t.lvs.length:Int)<=9223372036854775807:=by omega
 split at hF
 ·rename_i e;subst e;obtain rfl:=qAg hF;simp[cW,cQ,xX,pU,pV,tK,-fB',-eB'];intro b1;exact yh v v' t Ew rfl rfl rfl rfl ⟨rfl,rfl⟩
 rename_i e0;obtain⟨q,hq,hF⟩:=qzU.1 hF;split at hF
 ·cases hF
 rename_i hok2;have hok3:=yc hok2;obtain⟨hlq,hfq⟩:=hok3;have hlq':(q.1.lvs.length:Int)<=9223372036854775807:=by omega
 split at hF
 ·rename_i e;obtain rfl:=qAg hF;have e':(q.1.lvs.length:Int)=t.lvs.length:=by omega
  simp[cW,cQ,xX,pU,pV,tK,h1,hq,e0,hlv',hlq',e,e',-fB',-eB'];intro b1 w w';exact yh w w' q.1 Ew rfl rfl rfl rfl ⟨rfl,rfl⟩
 rename_i e;obtain⟨c,hc,hF⟩:=qzU.1 hF;obtain⟨l,hl,hF⟩:=qz6.1 hF;subst hF;have e':¬(q.1.lvs.length:Int)=t.lvs.length:=by omega
 have hin:InR .i64 (m -1):=by simp only[InR];omega
 simp[cW,cQ,xX,pU,pV,tK,h1,h2,h3,hq,hc,hl,e0,hlv',hlq',e,e',hin,-fB',-eB'];exactλb1 w w'=>yh w w' l.1 _ rfl rfl rfl rfl ⟨rfl,rfl⟩
def qkO(b:Tbk->Rx->Option (Tbk×Prt))(o:Tbk->Rx×Int->Option (Tbk×Prt))(y:Rx)(mn mx:Int)(q:Tbk×Prt×Bool):Option (Tbk×Prt):=
 if q.2.2=true then some (q.1,Ew)else
  if mx< 0/\mn=0 then(b q.1 y).bind λr=>(Gw r.1 (r.2.last,r.2.first)).map λl=>(l.1, { r.2 with nul:=true })else
  if mn<mx then(o q.1 (y,mx -mn)).bind λr=>Az r.1 (q.2.1,r.2)else some (q.1,q.2.1)
set_option maxHeartbeats 2000000 in
theorem qdw(n:Nat)(h1:S di=LX n)(h2:S eN=Yx n)(h3:S dK=K2)(h4:S gO=Rw):Jc je iK S (a1 Rx) (enc (X:=Prt)) (EU (n+1)).r:=by
 rintro b v v' t ⟨op,mn,mx,rs,ks⟩ r hF;replace hF:qeW (EU n).b (EU n).o t ⟨op,mn,mx,rs,ks⟩=some r:=hF;unfold qeW at hF;simp only at hF;split at hF
 ·cases hF
 rename_i y ks';split at hF
 ·cases hF
 rename_i hrng;obtain⟨q,hq,hF⟩:=qzU.1 hF;have hF:qkO (EU n).b (EU n).o y mn mx q=some r:=hF;have hm:mn=(mn.toNat:Int):=by omega
 generalize mn.toNat=m at hm hq;subst hm;have hm':(m:Int)<=9223372036854775807:=by omega
 have hpos:(0:Int)<((y::ks').length:Int):=by simp
 simp[je,iK,xX,pU,pV,tK,hm',-fB',-eB'];intro b4 b5;refine ah (X:=Tbk×Prt×Value×Value) [0,3,4,5] [4] m (λk x=>(qpm (EU n).b y mx (m -k) x.1 x.2.1).bind (qkO (EU n).b (EU n).o y m mx)=some r) (λx=>[]) (λx=>[(0, .box b [.own 990 x.2.2.1, .v (.int .u64 x.1.fi.val), .v (.int .u64 x.1.la.val), .own 991 x.2.2.2, .v (.bool x.1.nul)]),(990, .row x.2.2.1 eR 1 (x.1.lvs.map enc)),(991, .row x.2.2.2 fP 1 (x.1.fol.map enc)),(5, .box b5 [.v (.int .u64 x.2.1.first.val), .v (.int .u64 x.2.1.last.val), .v (.bool x.2.1.nul)])]) (t,Ew,v,v') (by simp[hq,hF]) ?_ ?_ (hh:=by simp[Ew])
 ·rintro k ⟨t,p,w,w'⟩ hk hx;rw[show m -k=(m - (k+1)) +1 by omega,qpm]at hx;simp only at hx;split at hx
  ·cases hx
  rename_i hok;obtain⟨hlv,hfo⟩:=yc hok;have hlv':(t.lvs.length:Int)<=9223372036854775807:=by omega
  cases hb:(EU n).b t y with
  |none=>rw[hb]at hx;cases hx
  |some c=>
  rw[hb,qAh]at hx;split at hx
  ·cases hx
  rename_i hok2;obtain⟨hlq,hfq⟩:=yc hok2;have hlq':(c.1.lvs.length:Int)<=9223372036854775807:=by omega
  split at hx
  ·rename_i e;have e':(c.1.lvs.length:Int)=t.lvs.length:=by omega
   simp[hk,h1,hb,hlv',hlq',e,e',-fB',-eB'];have hx:some (c.1,Ew)=some r:=hx;obtain rfl:=qAg hx;exactλu u'=>yh u u' c.1 Ew rfl rfl rfl rfl rfl
  rename_i e;have e':¬(c.1.lvs.length:Int)=t.lvs.length:=by omega
  have hin:InR .i64 ((m:Int) -1):=by simp only[InR];omega
  by_cases hmx:mx< 0
  ·by_cases hkm:m - (k+1)=0
   ·rw[if_pos ⟨hmx,hkm⟩]at hx;have hkm':(k:Int)=m -1:=by omega
    cases hl:Gw c.1 (c.2.last,c.2.first)with
    |none=>rw[hl]at hx;cases hx
    |some l=>
    rw[hl,qAh]at hx;cases hc:Az l.1 (p,c.2)with
    |none=>rw[hc]at hx;cases hx
    |some d=>
    rw[hc,qAh]at hx;simp[hk,h1,h3,h4,hb,hl,hc,hlv',hlq',e,e',hin,hmx,hkm',-fB',-eB'];exactλu u'=>⟨d.1,d.2,hx,u,u', .inl ⟨rfl,rfl,rfl,rfl,rfl⟩, .inl ⟨rfl,rfl⟩, .inl ⟨rfl,rfl⟩, .inl ⟨rfl,rfl,rfl⟩⟩
   ·rw[if_neg (λh=>hkm h.2)]at hx;have hkm':¬(k:Int)=m -1:=by omega
    rw[qAh]at hx;cases hc:Az c.1 (p,c.2)with
    |none=>rw[hc]at hx;cases hx
    |some d=>
    rw[hc,qAh]at hx;simp[hk,h1,h3,h4,hb,hc,hlv',hlq',e,e',hin,hmx,hkm',-fB',-eB'];exactλu u'=>⟨d.1,d.2,hx,u,u', .inl ⟨rfl,rfl,rfl,rfl,rfl⟩, .inl ⟨rfl,rfl⟩, .inl ⟨rfl,rfl⟩, .inl ⟨rfl,rfl,rfl⟩⟩
  ·rw[if_neg (λh=>hmx h.1)]at hx;rw[qAh]at hx;cases hc:Az c.1 (p,c.2)with
   |none=>rw[hc]at hx;cases hx
   |some d=>
   rw[hc,qAh]at hx;simp[hk,h1,h3,h4,hb,hc,hlv',hlq',e,e',hmx,-fB',-eB'];exactλu u'=>⟨d.1,d.2,hx,u,u', .inl ⟨rfl,rfl,rfl,rfl,rfl⟩, .inl ⟨rfl,rfl⟩, .inl ⟨rfl,rfl⟩, .inl ⟨rfl,rfl,rfl⟩⟩
 ·rintro⟨t,p,w,w'⟩ hx;simp only[qBA,qpm,qAh]at hx;have hx:(if mx< 0/\(m:Int)=0 then((EU n).b t y).bind λr=>(Gw r.1 (r.2.last,r.2.first)).map λl=>(l.1, { r.2 with nul:=true })else
   if(m:Int)<mx then((EU n).o t (y,mx -m)).bind λr=>Az r.1 (p,r.2)else some (t,p))=some r:=hx
  by_cases hA:mx< 0/\(m:Int)=0
  ·rw[if_pos hA]at hx;obtain⟨hmx,hm0⟩:=hA;obtain⟨c,hb,hx⟩:=qzU.1 hx;obtain⟨l,hl,rfl⟩:=qz6.1 hx;have hm0':m=0:=by omega
   subst hm0';simp[h1,h4,hb,hl,hmx,-fB',-eB'];exactλu u'=>yh u u' l.1 _ rfl rfl rfl rfl ⟨rfl,rfl⟩
  ·rw[if_neg hA]at hx;by_cases hB:(m:Int)<mx
   ·rw[if_pos hB]at hx;obtain⟨c,hb,hx⟩:=qzU.1 hx;have n0:¬mx< 0:=by omega
    have hin:InR .i64 (mx -m):=by simp only[InR];omega
    simp[h2,h3,hb,hx,n0,hB,hin,-fB',-eB'];exactλu u'=>yh u u' r.1 r.2 rfl rfl rfl rfl rfl
   ·rw[if_neg hB]at hx;obtain rfl:=qAg hx;by_cases hmx:mx< 0
    ·have hm0:¬(m:Int)=0:=λh=>hA ⟨hmx,h⟩
     have hm0':¬m=0:=by omega
     simp[hmx,hm0,hm0',hB,-fB',-eB'];exact yh w w' t p rfl rfl rfl rfl ⟨rfl,rfl⟩
    ·simp[hmx,hB,-fB',-eB'];exact yh w w' t p rfl rfl rfl rfl ⟨rfl,rfl⟩
end Go.Gv
namespace Go.Gv
open Cod (enc dec)
def Zn(t:Tbk):D:= .cptr [enc t.lvs,enc t.fi,enc t.la,enc t.fol,enc t.nul] 0
def qgz{t t':Tbk}(h:Zn t=Zn t'):t=t':=by
 obtain⟨a1,a2,a3,a4,a5⟩:=t;obtain⟨b1,b2,b3,b4,b5⟩:=t';unfold Zn at h;injection h with h1 h2;simp only[qAA]at h1;obtain⟨h1,h2,h3,h4,h5,_⟩:=h1;have h1:=bK h1;have h2:=bK h2;have h3:=bK h3;have h4:=bK h4;have h5:=bK h5;subst h1;subst h2;subst h3;subst h4;subst h5;rfl
open Classical in
noncomputable instance:Cod Tbk where
 wd:=1
 enc:=Zn
 dec d:=if h:∃t,d=Zn t then some h.choose else none
 kn _:=rfl
 wid _:=rfl
 dec_enc t:=by
  have h:∃t',Zn t=Zn t':=⟨t,rfl⟩
  rw[dif_pos h];exact congrArg some (qgz h.choose_spec).symm
 le d x h:=by
  split at h
  ·rename_i h';cases h;rw[h'.choose_spec.symm];exact .same _
  ·cases h
@[simp] theorem qtw(t:Tbk):enc t= .cptr [enc t.lvs,enc t.fi,enc t.la,enc t.fol,enc t.nul] 0:=i' rfl
@[simp] theorem qtF(l:List (List Rng))(f a:Int)(fo:List U64)(n:Bool):dec (X:=Tbk) (.cptr [.list 1 (l.map enc), .v (.int .u64 f), .v (.int .u64 a), .list 1 (fo.map enc), .v (.bool n)] 0)=some ⟨l,⟨f⟩,⟨a⟩,fo,n⟩:=Cod.dec_enc (X:=Tbk) ⟨l,⟨f⟩,⟨a⟩,fo,n⟩
variable {S S0:Nat->Spc}
def qks(n:Nat)(x:Rx):Prop:=(qiz n x).isSome=true
def qnH(n:Nat)(x:Rx)(t:Tbk):Prop:=qiz n x=some t
noncomputable abbrev qkM(n:Nat):Spc:=aL (a1 Rx) (qks n) (enc (X:=Tbk)) (qnH n)
theorem quR(n:Nat)(h1:S di=LX n):am Ae yV S (a1 Rx) (qks n) (enc (X:=Tbk)) (qnH n):=by
 rintro x hx;obtain⟨t,ht⟩:=qAW.1 hx;obtain⟨q,hq,rfl⟩:=qz6.1 ht;have hq0:(EU n).b ⟨[],⟨0⟩,⟨0⟩, [],false⟩ x=some q:=hq;simp[Ae,yV,-fB',-eB'];refine iB (X:=Nat) [1] [] [] [] (λ_=>True) (λb=>[(3, .bptr 6 b 0)]) (λb=>[(6, .box b [.own 990 (.slice none 0 0), .v (.int .u64 0), .v (.int .u64 0), .own 991 (.slice none 0 0), .v (.bool false)]),(990, .row (.slice none 0 0) eR 1 []),(991, .row (.slice none 0 0) fP 1 [])]) [6,990,991] (λ_=>rfl) (by decide) ?_ ?_
 ·simp;refineλb=>⟨b, .same _, .inl ?_,by simp[isNilRow],by simp[isNilRow]⟩
  simp;exact⟨.nilown 990, .nilown 991⟩
 ·rintro b -;have e1:(Res.row (.slice none 0 0) eR 1 []:Res)= .row (.slice none 0 0) eR 1 (([]:List (List Rng)).map enc):=rfl;have e2:(Res.row (.slice none 0 0) fP 1 []:Res)= .row (.slice none 0 0) fP 1 (([]:List U64).map enc):=rfl;rw[e1,e2];simp[h1,hq0, -List.map_nil,-fB',-eB'];simp[hq0,-fB',-eB'];intro w w';refine iB (X:=Unit) [] [] [990,991] [] (λ_=>True) (λ_=>[(2, .bptr 6 b 0)]) (λ_=>[(6, .box b [enc q.1.lvs, .v (.int .u64 q.2.first.val), .v (.int .u64 q.2.last.val),enc q.1.fol, .v (.bool q.2.nul)])]) [6] (λ_=>rfl) (by decide) ?_ ?_
  ·simp;exact .inl ⟨fG (l:=q.1.lvs) eR rfl,fG (l:=q.1.fol) fP rfl⟩
  ·rintro - -;simp;refine ba ⟨q.1.lvs,q.2.first,q.2.last,q.1.fol,q.2.nul⟩ ?_ ht;exact .box rfl
def qhI(x:Tbk×U64×Bool):Prop:=x.1.fol.length<=100000
def qhB(x:Tbk×U64×Bool)(y:U64):Prop:=y=BH x.1 x.2.1 x.2.2
noncomputable abbrev qek:Spc:=aL (a3 Tbk U64 Bool) qhI (enc (X:=U64)) qhB
theorem qih:am gu fY S (a3 Tbk U64 Bool) qhI (enc (X:=U64)) qhB:=by
 rintro⟨⟨lv,fi,la,fo,nu⟩,set,beg⟩ hlen;have hlen:fo.length<=100000:=hlen;have hl:(fo.length:Int)<=9223372036854775807:=by omega
 cases beg
 ·simp[gu,fY,hl,-fB',-eB'];refine ah (X:=U64) [1,18] [] fo.length (λk m=>qkT set k (fo.drop k) m=qkT set 0 fo ⟨0⟩) (λm=>[(7,enc m)]) (λx=>[]) ⟨0⟩ (by simp) ?_ ?_
  ·rintro k m hk hm;obtain⟨f,hf⟩:∃f,fo[k]? =some f:=⟨_,qzX hk⟩
   obtain⟨_,hgf⟩:=qzV.1 hf;rw[qfl hf]at hm;simp[hk,hf,hgf,-fB',-eB'];exact⟨λhb=>⟨qi5 m f,by simpa [hb]using hm,rfl⟩,λhb=>⟨m,by simpa [hb]using hm,rfl⟩⟩
  ·rintro m hm;rw[qAX,qkT]at hm;subst hm;simp[-fB',-eB'];exact ba _ (.same _) rfl
 ·simp[gu,fY,hl,-fB',-eB'];exact ba _ (.same _) rfl
end Go.Gv
namespace Go.Gv
open Cod (enc dec)
def SY(l:List Rng)(c:Int):Bool:=l.any λr=>decide (r.fr.val<=c) && decide (c<=r.to.val)
def qog(next:U64)(c:I32):Nat->List (List Rng)->U64->U64
 | _, [],m=>m
 |i,l::ls,m=>qog next c (i+1) ls (if qc9 next i && SY l c.val then⟨qoc .u64 m.val (Rr .u64 1 i)⟩else m)
def qit(next:U64)(lvs:List (List Rng)):List I32->U64->U64
 | [],m=>m
 |v::vs,m=>qit next lvs vs (qog next v 0 lvs m)
def qpG(t:Tbk)(vf:I32->List I32):List I32->U64->Bool->Bool
 | [],set,beg=>(beg && t.nul)||decide (De .u64 set.val t.la.val≠0)
 |c::l,set,beg=>if(qit (BH t set beg) t.lvs (vf c) ⟨0⟩).val=0 then false else qpG t vf l (qit (BH t set beg) t.lvs (vf c) ⟨0⟩) false
def low(c:Int):Int:=if 65<=c/\c<=90 then c+32 else c
def M9(c:I32):List I32:=([⟨low c.val⟩,⟨low c.val -32⟩,⟨low c.val -80⟩]:List I32).filter λv=>decide (0<=v.val/\low v.val=low c.val)
def X6(f:Bool)(c:I32):List I32:=if f=true then M9 c else[c]
def qj9(l:List UInt8):List I32:=l.map λc=>⟨(c.toNat:Int)⟩
def Ey(x:Rx)(s:B)(f:Bool):Option Bool:=if DV 50 x=true/\Ah s=true/\s.size<=1000 then(qiz 50 x).bind λt=>if Sk t=true then some (qpG t (X6 f) (qj9 s.data.toList) ⟨0⟩ true)else none else none
open Go.Proofs
def ve:CC:=gq Tryz.f256 [3] {} _
def ue:List ak:=[.tmp 6]
def Mr:FO rj [3] ve ue 88:=fo
def vh:CC:=gq Tryz.f194 [2] {} _
def ug:List ak:=[.tmp 4]
def Mt:FO wR [2] vh ug 8:=fo
def qI:CC:=gq Tryz.f258 [] {} _
def qe:List ak:=[.tmp 2]
def H5:FO dD [] qI qe 5:=fo
def nr:CC:=gq Tryz.f193 [2] {} _
def mZ:List ak:=[.tmp 4]
def Ee:FO pa [2] nr mZ 8:=fo
def pw:CC:=gq Tryz.f257 [] {} _
def nU:List ak:=[.tmp 2]
def F4:FO dg [] pw nU 43:=fo
variable {S S0:Nat->Spc}
def aMt:fT (Rx×B×Bool):=⟨λds=>match ds with
 | [a,b, .clo f []]=>if f=dD then(dec a).bind λx=>(dec b).map λs=>(x,s,false)else if f=dg then(dec a).bind λx=>(dec b).map λs=>(x,s,true)else none
 | _=>none,λx=>[enc x.1,enc x.2.1, .clo (if x.2.2=true then dg else dD) []],λds x h=>by
 split at h
 ·rename_i a b f;split at h
  ·rename_i e;simp only[qzU,qz6]at h;obtain⟨x,hx,s,hs,rfl⟩:=h;subst e;exact .cons (Cod.le _ _ hx) (.cons (Cod.le _ _ hs) (.cons (.same _) .nil))
  ·split at h
   ·rename_i e;simp only[qzU,qz6]at h;obtain⟨x,hx,s,hs,rfl⟩:=h;subst e;exact .cons (Cod.le _ _ hx) (.cons (Cod.le _ _ hs) (.cons (.same _) .nil))
   ·cases h
 ·cases h⟩
@[simp] theorem qq7(x:Rx)(s:B)(f:Bool):aMt.view (x,s,f)=[enc x,enc s, .clo (if f=true then dg else dD) []]:=i' rfl
@[simp] theorem qq9(a b:D):aMt.dec [a,b, .clo dD []]=(dec a).bind λx=>(dec b).map λs=>(x,s,false):=i' rfl
@[simp] theorem qq8(a b:D):aMt.dec [a,b, .clo dg []]=(dec a).bind λx=>(dec b).map λs=>(x,s,true):=i' rfl
abbrev qbW:Spc:=aL (a1 Rx) (λx=>DV 50 x=true) (enc (X:=Int)) λx y=>y=0
abbrev qen:Spc:=aL (a2 (List Rng) I32) (λ_=>True) (enc (X:=Bool)) λx y=>y=SY x.1 x.2.val
abbrev s_cpVal:Spc:=aL (a1 B) (λs=>Ah s=true/\s.size<=1000) (enc (X:=Bool)) λ_ y=>y=true
abbrev qkN:Spc:=aL (a1 I32) (λc=>0<=c.val/\c.val< 128) (enc (X:=List I32)) λc y=>y=X6 false c
abbrev qkL:Spc:=aL (a1 I32) (λc=>0<=c.val/\c.val< 128) (enc (X:=List I32)) λc y=>y=X6 true c
def qkr(x:Rx×B×Bool):Prop:=∃y,Ey x.1 x.2.1 x.2.2=some y
def qnG(x:Rx×B×Bool)(y:Bool):Prop:=Ey x.1 x.2.1 x.2.2=some y
abbrev qeo:Spc:=aL aMt qkr (enc (X:=Bool)) qnG
def QA{s:B}(h:Ah s=true){p:Nat}(hp:p<s.size):∃c:UInt8,s.data.toList[p]? =some c/\c.toNat< 128/\Utf8.decode s p=(c.toNat,1):=by
 have hl:p<s.data.toList.length:=by rw[qAi];exact hp
 refine⟨s.data.toList[p],qzX hl,?_,?_⟩
 ·have:=qz4.1 h _ (qBC hl);simpa using this
 ·have h1:(s[p]'hp).toNat< 128:=by
   have:=qz4.1 h _ (qBC hl);have h2:s.data[p].toNat< 128:=by simpa using this
   exact h2
  have:=Go.decode_ascii s p hp h1;rw[this];have:s[p]=s.data.toList[p]:=by
   rw[Array.getElem_toList];rfl
  rw[this]
set_option maxHeartbeats 2000000 in
theorem Od(h1:S lL=qbW)(h2:S pu=s_cpVal)(h3:S B1=qkM 50)(h4:S mi=qek)(h5:S qA=qen)(h6:S dD=qkN)(h7:S dg=qkL):
 am ve ue S aMt qkr (enc (X:=Bool)) qnG:=by
 rintro⟨x,s,f⟩ ⟨y,hy⟩;have hy0:Ey x s f=some y:=hy;unfold Ey at hy0;split at hy0
 rotate_left
 ·cases hy0
 rename_i hc;obtain⟨hv,ha,hsz⟩:=hc;obtain⟨t,ht,hy1⟩:=qzU.1 hy0;split at hy1
 rotate_left
 ·cases hy1
 rename_i hok;have hres:qpG t (X6 f) (qj9 s.data.toList) ⟨0⟩ true=y:=qAg hy1;obtain⟨hlv,hfo⟩:=yc (t:=t) (by rw[hok];simp);have hOf:qnH 50 x t:=ht;have hPOf:qks 50 x:=by unfold qks;rw[ht];rfl
 simp[ve,ue,h1,h2,h3,hv,ha,hsz,hPOf,-fB',-eB'];intro t' ht' b;obtain rfl:t=t':=by
  have h:qiz 50 x=some t':=ht';rw[ht]at h;exact qAg h
 refine ay (X:=U64×Bool×Nat) [2,7,28] [] (λz=>qpG t (X6 f) (qj9 (s.data.toList.drop z.2.2)) z.1 z.2.1=y/\z.2.2<=s.size) (λz=>[(8,enc z.1),(9,enc z.2.1)]) (λz=>[(28, .iter b s z.2.2)]) (λz=>s.size -z.2.2) (⟨0⟩,true,0) ⟨by simpa using hres,qAr _⟩ ?_;rintro⟨set,beg,pos⟩ ⟨hm,hp⟩;simp only at hm hp;by_cases hlt:pos<s.size
 ·obtain⟨c,hc,hc128,hdec⟩:=QA ha hlt;rw[uY hc]at hm;have hm:(if(qit (BH t set beg) t.lvs (X6 f ⟨(c.toNat:Int)⟩) ⟨0⟩).val=0 then false else qpG t (X6 f) (qj9 (s.data.toList.drop (pos+1))) (qit (BH t set beg) t.lvs (X6 f ⟨(c.toNat:Int)⟩) ⟨0⟩) false)=y:=hm;have hN:qhI (t,set,beg):=by show t.fol.length<=100000;omega
  have hq:qhB (t,set,beg) (BH t set beg):=rfl;have c0:(0:Int)<=(c.toNat:Int):=by omega
  have c1:(c.toNat:Int)< 128:=by omega
  have hvl:((X6 f ⟨(c.toNat:Int)⟩).length:Int)<=9223372036854775807:=by
   have:(X6 f ⟨(c.toNat:Int)⟩).length<=3:=by
    unfold X6;split
    ·unfold M9;exact qAx (List.length_filter_le _ _) (by simp)
    ·simp
   omega
  have h8:S (if f=true then dg else dD)=aL (a1 I32) (λc=>0<=c.val/\c.val< 128) (enc (X:=List I32)) λc y=>y=X6 f c:=by
   cases f
   ·exact h6
   ·exact h7
  simp[hlt,hdec,h4,hN,h8,c0,c1,hvl,-fB',-eB'];intro nx hnx;obtain rfl:nx=BH t set beg:=hnx;generalize BH t set beg=nx at hm;generalize X6 f ⟨(c.toNat:Int)⟩=vs at hm hvl;refine ah (X:=U64) [2,7,9,12,28,38] [28] vs.length (λk m=>qit nx t.lvs (vs.drop k) m=qit nx t.lvs vs ⟨0⟩) (λm=>[(8,enc m)]) (λ_=>[]) ⟨0⟩ (by simp) ?_ ?_
  ·rintro k m hk hm2;obtain⟨v,hvk⟩:=Th hk;obtain⟨_,hgv⟩:=qzV.1 hvk;rw[uY hvk,qit]at hm2;have hlv':(t.lvs.length:Int)<=9223372036854775807:=by omega
   simp[hk,hvk,hgv,hlv',-fB',-eB'];refine ah (X:=U64) [2,7,9,12,14,28,38,39,40,47] [28] t.lvs.length (λk m'=>qog nx v k (t.lvs.drop k) m'=qog nx v 0 t.lvs m) (λm=>[(8,enc m)]) (λ_=>[]) m (by simp) ?_ ?_
   ·rintro j m' hj hm3;obtain⟨lf,hlf⟩:=Th hj;obtain⟨_,hgl⟩:=qzV.1 hlf;rw[uY hlf,qog]at hm3;simp[hj,hlf,hgl,h5,-fB',-eB'];refine⟨λhb=>⟨λhc=>⟨_,by rw[if_pos (by simp[hb,hc])]at hm3;exact hm3,rfl⟩,λhc=>⟨m',by rw[if_neg (by simp[hc])]at hm3;exact hm3,rfl⟩⟩,λhb=>⟨m',by rw[if_neg (by simp[hb])]at hm3;exact hm3,rfl⟩⟩
   ·rintro m' hm3;rw[qAX,qog]at hm3;subst hm3;simp[-fB',-eB'];exact⟨_,hm2,rfl⟩
  ·rintro m hm2;rw[qAX,qit]at hm2;subst hm2;simp[-fB',-eB'];refine⟨λh0=>?_,λh0=>?_⟩
   ·rw[if_pos h0]at hm;subst hm;exact hy
   ·rw[if_neg h0]at hm;exact⟨_,false,pos+1,⟨hm,by omega⟩,⟨⟨rfl,rfl⟩, .inl rfl⟩,by omega⟩
 ·have hpe:pos=s.size:=by omega
  subst hpe;rw[qBJ (by rw[qAi];exact qz2 _)]at hm;have hm:((beg && t.nul)||decide (De .u64 set.val t.la.val≠0))=y:=hm;simp[-fB',-eB'];have hQ:∀w,w=y->qnG (x,s,f) w:=λw e=>by subst e;exact hy
  refine⟨λhb=>⟨λhn=>hQ _ ?_,λhn=>hQ _ ?_⟩,λhb=>hQ _ ?_⟩
  all_goals
   subst hb
   first|subst hn|skip
   rw[<-hm];simp[*]
def JN:am qI qe S (a1 I32) (λc=>0<=c.val/\c.val< 128) (enc (X:=List I32)) λc y=>y=X6 false c:=by
 rintro⟨c⟩ ⟨c0,c1⟩;simp[qI,qe,-fB',-eB'];exact ba [⟨c⟩] (by simp) rfl
def XE(f:Bool)(x:Rx×B):Prop:=∃y,Ey x.1 x.2 f=some y
def qhC(f:Bool)(x:Rx×B)(y:Bool):Prop:=Ey x.1 x.2 f=some y
abbrev qai(f:Bool):Spc:=aL (a2 Rx B) (XE f) (enc (X:=Bool)) (qhC f)
def Og(h1:S rj=qeo):am vh ug S (a2 Rx B) (XE false) (enc (X:=Bool)) (qhC false):=by
 rintro⟨x,s⟩ hp;have hp':qkr (x,s,false):=hp;simp[vh,ug,h1,hp',-fB',-eB'];exactλy hy=>hy
def Fc(h1:S rj=qeo):am nr mZ S (a2 Rx B) (XE true) (enc (X:=Bool)) (qhC true):=by
 rintro⟨x,s⟩ hp;have hp':qkr (x,s,true):=hp;simp[nr,mZ,h1,hp',-fB',-eB'];exactλy hy=>hy
def lI(c:Int):B:=⟨#[c.toNat.toUInt8]⟩
abbrev s_cpFold1:Spc:=aL (a1 B) (λs=>∃c:Int,0<=c/\c< 128/\s=lI c) (enc (X:=B)) λs y=>∀c:Int,0<=c->c< 128->s=lI c->y=lI (low c)
def SU{c:Int}(h0:0<=c)(h1:c< 128):Utf8.encode c=lI c:=by
 unfold Utf8.encode lI;have e:c.toNat< 128:=by omega
 have h:Utf8.valid c=true:=by
  unfold Utf8.valid;have:c< 55296:=by omega
  simp[h0,this]
 simp[e,h]
def Sq{c:Int}(h0:0<=c)(h1:c< 128):0<=low c/\low c< 128:=by unfold low;split<;>omega
def qau{c d:Int}(hc:0<=c)(hc':c< 128)(hd:0<=d)(hd':d< 128)(h:lI c=lI d):c=d:=by
 have:c.toNat.toUInt8=d.toNat.toUInt8:=by
  have:=congrArg (λb:B=>b.data.toList.head?) h;simpa [lI]using this
 have:=congrArg UInt8.toNat this;have e1:c.toNat.toUInt8.toNat=c.toNat % 256:=qBI ..;have e2:d.toNat.toUInt8.toNat=d.toNat % 256:=qBI ..;omega
def qml{c d:Int}(hc:0<=c)(hc':c< 128)(hd:0<=d)(hd':d< 128):(lI c=lI d)=(c=d):=propext ⟨qau hc hc' hd hd',λh=>by rw[h]⟩
theorem XN(h1:S qF=s_cpFold1):am pw nU S (a1 I32) (λc=>0<=c.val/\c.val< 128) (enc (X:=List I32)) λc y=>y=X6 true c:=by
 rintro⟨c⟩ ⟨c0,c1⟩;have c0:0<=c:=c0;have c1:c< 128:=c1;obtain⟨l0,l1⟩:=Sq c0 c1;have hP:∃d:Int,0<=d/\d< 128/\lI c=lI d:=⟨c,c0,c1,rfl⟩
 simp[pw,nU,h1,SU c0 c1,hP,-fB',-eB'];intro y hy b;obtain rfl:=hy c c0 c1 rfl;clear hy;obtain⟨r,hr⟩:∃r,r=low c:=⟨_,rfl⟩
 rw[<-hr]at l0 l1 ⊢;have hsz:(lI r).size=1:=rfl;have hdec:Utf8.decode (lI r) 0=(r.toNat,1):=by
  have h0:0<(lI r).size:=by rw[hsz];omega
  have e1:((lI r)[0]'h0).toNat=r.toNat % 256:=qBI ..;have e2:((lI r)[0]'h0).toNat=r.toNat:=by omega
  rw[Go.decode_ascii (lI r) 0 h0 (by omega),e2]
 refine ay (X:=Nat×Value×List I32) [4,13] [] (λz=>z.1=0/\z.2.1= .slice none 0 0/\z.2.2=[]\/z.1=1/\z.2.2=M9 ⟨c⟩) (λz=>[(3, .own 40 z.2.1)]) (λz=>[(13, .iter b (lI r) z.1),(40, .row z.2.1 LC 1 (z.2.2.map enc))]) (λz=>1 -z.1) (0, .slice none 0 0, []) (.inl ⟨rfl,rfl,rfl⟩) ?_ (hh:=by simp[isNilRow]);rintro⟨pos,v,l⟩ hz;simp only at hz;rcases hz with⟨rfl,rfl,rfl⟩|⟨rfl,rfl⟩
 ·have hrn:((r.toNat:Nat):Int)=r:=by omega
  have i1:InR .i32 (r -32):=by simp only[InR];omega
  have i2:InR .i32 (r -80):=by simp only[InR];omega
  simp[hsz,hdec,hrn,i1,i2,-fB',-eB'];have hfo:∀l:List I32,l=([⟨r⟩,⟨r -32⟩,⟨r -80⟩]:List I32).filter (λv=>decide (0<=v.val/\low v.val=r))->l=M9 ⟨c⟩:=λl hl=>by
   rw[hl,M9];simp only[<-hr]
  refine ah (X:=Value×List I32) [4,13,22] [13] 3 (λk z=>z.2=(([⟨r⟩,⟨r -32⟩,⟨r -80⟩]:List I32).take k).filter (λv=>decide (0<=v.val/\low v.val=r))/\z.2.length<=k) (λz=>[(3, .own 40 z.1)]) (λz=>[(40, .row z.1 LC 1 (z.2.map enc))]) (.slice none 0 0, []) ⟨rfl,by simp⟩ ?_ ?_ (hh:=by simp[isNilRow])
  ·rintro k ⟨v,l⟩ hk ⟨hl,hlen⟩;simp only at hl hlen;obtain⟨e,he,hee⟩:∃e:Int,e< 128/\([⟨r⟩,⟨r -32⟩,⟨r -80⟩]:List I32)[k]? =some ⟨e⟩/\([.v (.int .i32 r), .v (.int .i32 (r -32)), .v (.int .i32 (r -80))]:List D)[k]? =some (.v (.int .i32 e)):=by
    rcases(by omega:k=0\/k=1\/k=2)with rfl|rfl|rfl
    ·exact⟨r,by omega,rfl,rfl⟩
    ·exact⟨r -32,by omega,rfl,rfl⟩
    ·exact⟨r -80,by omega,rfl,rfl⟩
   obtain⟨he1,he2⟩:=hee;have he3:∀h,([.v (.int .i32 r), .v (.int .i32 (r -32)), .v (.int .i32 (r -80))]:List D)[k]'h= .v (.int .i32 e):=λh=>by
    obtain⟨_,h2⟩:=qzV.1 he2;exact h2
   have hki:(k:Int)< 3:=by omega
   have hstep:(([⟨r⟩,⟨r -32⟩,⟨r -80⟩]:List I32).take (k+1)).filter (λv=>decide (0<=v.val/\low v.val=r))=l++ ([⟨e⟩]:List I32).filter (λv=>decide (0<=v.val/\low v.val=r)):=by
    rw[qA6,he1,qBp,<-hl];rfl
   by_cases h0:0<=e
   ·obtain⟨q0,q1⟩:=Sq h0 he;have hPe:∃d:Int,0<=d/\d< 128/\lI e=lI d:=⟨e,h0,he,rfl⟩
    simp[hk,hki,he2,he3,h0,h1,SU h0 he,hPe,-fB',-eB'];intro y hy;obtain rfl:=hy e h0 he rfl;rw[qml q0 q1 l0 l1];refine⟨λhh=>⟨by omega,by omega,λv=>⟨v,l++ [⟨e⟩],⟨?_,by simp;omega⟩,rfl, .inl ⟨rfl,by simp⟩⟩⟩,λhh=>⟨v,l,⟨?_,by omega⟩,rfl, .inl ⟨rfl,rfl⟩⟩⟩
    ·simpa [h0,hh]using hstep.symm
    ·simpa [h0,hh]using hstep.symm
   ·simp[hk,hki,he2,he3,h0,-fB',-eB'];refine⟨v,l,⟨?_,by omega⟩,rfl, .inl ⟨rfl,rfl⟩⟩;simpa [h0]using hstep.symm
  ·rintro⟨v,l⟩ ⟨hl,hlen⟩;simp only at hl hlen;have hl:=hfo l hl;simp[-fB',-eB'];exact⟨1,v,l, .inr ⟨rfl,hl⟩,⟨rfl, .inl rfl, .inl ⟨rfl,rfl⟩⟩,rfl⟩
 ·simp[hsz,-fB',-eB'];exact ba (M9 ⟨c⟩) (fG (l:=M9 ⟨c⟩) LC rfl) rfl
end Go.Gv
