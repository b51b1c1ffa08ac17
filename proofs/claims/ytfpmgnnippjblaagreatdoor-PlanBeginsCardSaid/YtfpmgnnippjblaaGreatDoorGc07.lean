/- T3 -/
import Derived.Test.YtfpmgnnippjblaaGreatDoorGc06
set_option linter.all false
namespace Go.Gv
def COp.ops:COp->List Operand
 | .mv x| .box _ _ x| .tbx _ x| .load _ _ x| .nilck x| .not x| .neg x| .conv _ x| .faddr _ x| .fld _ _ _ x| .ext x _| .len x| .slen x=>[x]
 | .pick c x y=>[c,x,y]
 | .alloc _ _| .nslice _ _| .bad=>[]
 | .build _ a=>a.map (·.2.2)
 | .bslice _ _ a=>a
 | .mslice _ _ a=>a
 | .store _ _ x y| .arith _ x y| .cmp _ x y| .eql _ _ _ x y| .scat x y| .iaddr _ x y| .sidx x y| .append _ _ _ _ x y=>[x,y]
 | .clo _ xs| .mm _ xs| .call _ xs| .callb _ _ xs=>xs
 | .appmk _ _ _ _ _ x y| .copy _ x y=>[x,y]
 | .clear _ _ _ x| .cap x| .srange x| .snext x| .sbytes x| .srunes x| .bstr x| .rstr x| .mkif _ x=>[x]
 | .mkslice _ _ _ _ _ l c=>[l,c]
 | .slice _ x lo hi| .sslice x lo hi=>x::lo.toList++hi.toList
 | .callv f xs=>f::xs
 | .m _ xs=>xs
def qwX(A:PT):Prop:=∃(p:List D->Prop) (o:Nat->List D->D->Res->Prop),∀(t:Nat) (ds:List D) (H:ab) (K:D->ab->Prop),A t ds H K↔ (p ds/\∀d u,o t ds d u->K d (aj H t (some u)))
def qgi(dst:Option Nat)(s:Spc)(args:List D)(H:ab)(K:D->ab->Prop):Prop:=match s with
 | .pure a=>a.pre args/\∀r,a.post args r->K r H
 | .gen A _=>match dst with
   |some t=>qwX A/\A t args H K
   |none=>False
 | .none=>False
def Wu(i:Nat):Nat:=if 990<=i/\i< 1000 then 0 else i
def Gu(wid:Option Nat)(i:Nat):Prop:=match wid with|some t=>Wu i=Wu t|none=>False
instance (wid:Option Nat) (i:Nat):Decidable (Gu wid i):=by unfold Gu;split<;>infer_instance
def zl(H:ab)(wid:Option Nat):ab:=λi=>if Gu wid i then H i else none
def lR(H:ab)(wid:Option Nat)(u:List (Nat×Res)):ab:=λi=>if Gu wid i then(match u.lookup i with|some r=>some r|none=>H i)else H i
def qpd(r:Nat)(A:PT)(args:List D):Prop:=∃(p:ab->Prop) (o:ab->D->List (Nat×Res)->Prop),∀(t:Nat) (H:ab) (K:D->ab->Prop),A t args H K↔ (p (zl H (some r))/\∀d u,o (zl H (some r)) d u->K d (lR H (some r) u))
def Ta(r:Nat)(dst:Option Nat)(s:Spc)(args:List D)(H:ab)(K:D->ab->Prop):Prop:=match s with
 | .gen A _=>qpd r A args/\A (dst.getD 0) args H K
 | _=>False
def aw(S:Nat->Spc)(c:COp)(dst:Option Nat)(a:Sg)(Hr H:ab)(K:D->ab->Prop):Prop:=
 match c with
 | .call f args=>qgi dst (S f) (args.map (ev a)) H K
 | .callb r f args=>Ta r dst (S f) (args.map (ev a)) H K
 | .callv f args=>match ev a f with
   | .clo g caps=>match S g with
     | .pure p=>p.pre (args.map (ev a) ++caps)/\∀r,p.post (args.map (ev a) ++caps) r->K r H
     | _=>False
   | _=>False
 | .alloc el z=>bj (.alloc el z) dst a H K
 | .box el false x=>bj (.box el false x) dst a H K
 | .tbx el x=>bj (.tbx el x) dst a H K
 | .nslice el n=>bj (.nslice el n) dst a H K
 | .mslice el n q=>bj (.mslice el n q) dst a H K
 | .mkslice el n b agg z l c=>bj (.mkslice el n b agg z l c) dst a H K
 | .append rt el n b x y=>uP n (ev a y) Hr λes2=>match rt with
   | none=>match dst,ev a x with
     |some t, .v (.slice none 0 0)=>es2.length*b<=140737488355328/\es2.length<=140737488355328/\∀v,K (.own t v) (aj H t (some (.row v el n es2)))
     | _,_=>False
   | some r=>match ev a x with
     | .own id x=>id=r/\match H r with
       |some (.row h k j es)=>h=x/\k=el/\j=n/\(es.length+es2.length) *b<=140737488355328/\es.length+es2.length<=140737488355328/\∀v,K (.own r v) (aj H r (some (.row v el n (es++es2))))
       | _=>False
     | _=>False
 | .store rt sz x y=>(ev a y).kn=true/\(ev a y).cells.length=sz/\match rt with
   |none=>False
   | some r=>match ev a x with
     | .bptr id b off=>id=r/\match H r with
       |some (.box b' cells)=>b'=b/\off+sz<=cells.length/\K .undef (aj H r (some (.box b' (setAt cells off (ev a y).cells))))
       | _=>False
     | .eptr id x n i off=>id=r/\match H r with
       | some (.row h el j es)=>h=x/\j=n/\0<n/\off+sz<=n/\i<es.length/\∀d,es[i]? =some d->
          K .undef (aj H r (some (.row h el j (es.set i (if off=0/\sz=n then ev a y else .agg (setAt d.cells off (ev a y).cells))))))
       | _=>False
     | _=>False
 | .clear .. | .copy .. | .srange .. | .snext .. =>False
 | .appmk el n b agg z x c=>bj (.appmk el n b agg z x c) dst a H K
 | .m .mk xs=>bj (.m .mk xs) dst a H K
 |c=>ak c a Hr λd=>K d H
def COp.wid(c:COp)(dst:Option Nat):Option Nat:=
 match c with
 | .append (some r) _ _ _ _ _=>some r
 | .store (some r) _ _ _=>some r
 | .callb r _ _=>some r
 | _=>dst
def CI.wid:CI->Option Nat
 | .op d _ c=>c.wid d
 | .frz _ _=>none
def bO:List CI->ab->ab
 | [],H=>H
 | .frz _ _::_,H=>H
 | .op d g c::l,H=>λi=>if Gu (CI.op d g c).wid i then none else bO l H i
def kG(S:Nat->Spc):List CI->Sg->ab->ab->(Sg->ab->Prop)->Prop
 | [],a,_,H,K=>K a H
 | .frz _ _::r,a,Hr,H,K=>kG S r a (bO r Hr) H K
 | .op dst g c::r,a,Hr,H,K=>nl g a (λa=>aw S c dst a Hr H λd H'=>kG S r (fK a dst d) Hr H' K) (λa=>kG S r (fK a dst .undef) Hr H K)
def QV(S:Nat->Spc)(x:CI)(a:Sg)(Hr H:ab)(K:D->ab->Prop):Prop:=
 match x with
 | .frz _ _=>False
 | .op dst g c=>match g with
   |none=>aw S c dst a Hr H K
   | some (s,b)=>match a s with
     | .v (.bool t)=>(t=b->aw S c dst a Hr H K)/\(t=(!b)->K .undef H)
     | .undef=>K .undef H
     | _=>False
def CI.dst:CI->Option Nat
 | .op d _ _=>d
 | .frz _ _=>none
def qhZ(S:Nat->Spc):List (CI×ab)->Sg->ab->(Sg->ab->Prop)->Prop
 | [],a,H,K=>K a H
 |x::r,a,H,K=>QV S x.1 a x.2 H λd H'=>qhZ S r (fK a x.1.dst d) H' K
def Xx(F:(D->Prop)->Prop):Prop:=∃(pre:Prop) (out:D->Prop),∀K,F K↔ (pre/\∀d,out d->K d)
def bk(d:D):Xx λK=>K d:=⟨True,λe=>e=d,λK=>⟨λh=>⟨trivial,λe he=>he ▸h⟩,λh=>h.2 d rfl⟩⟩
def fY:Xx λ_=>False:=⟨False,λ_=>True,λK=>⟨λh=>h.elim,λh=>h.1⟩⟩
def aJ{A:Prop}{F:(D->Prop)->Prop}(h:Xx F):Xx λK=>A/\F K:=by
 obtain⟨pre,out,h⟩:=h;exact⟨A/\pre,out,λK=>by grind⟩
def kp{A:Prop}{F:(D->Prop)->Prop}(h:Xx F):Xx λK=>A->F K:=by
 obtain⟨pre,out,h⟩:=h;refine⟨A->pre,λd=>A/\out d,λK=>?_⟩;grind
def uv{α:Type}{F:α->(D->Prop)->Prop}(h:∀x,Xx (F x)):Xx λK=>∀x,F x K:=by
 have c:∀x,∃(p:Prop× (D->Prop)),∀K,F x K↔ (p.1/\∀d,p.2 d->K d):=λx=>by
  obtain⟨pre,out,a⟩:=h x;exact⟨(pre,out),a⟩
 obtain⟨p,hp⟩:=qHP c;refine⟨∀x,(p x).1,λd=>∃x,(p x).2 d,λK=>?_⟩;constructor
 ·intro b;exact⟨λx=>((hp x K).1 (b x)).1,λd ⟨x,a⟩=>((hp x K).1 (b x)).2 d a⟩
 grind
def qab{F G:(D->Prop)->Prop}(h1:Xx F)(h2:Xx G):Xx λK=>F K/\G K:=by
 obtain⟨a,b,h1⟩:=h1;obtain⟨c,h,h2⟩:=h2;refine⟨a/\c,λd=>b d\/h d,λK=>?_⟩;grind
def Ts(a:Sg):∀(b:List (Nat×Nat×Operand)) (cs:List D),Xx λK=>kE a b cs λcs=>K (.agg cs)
 | [],cs=>bk _
 |(off,sz,x)::r,cs=>aJ (aJ (Ts a r _))
def qgH(op:BinOp)(k:IntKind)(a b:Int):Xx λK=>gW op k a b K:=by
 cases op<;>simp only[gW] <;>first
  |exact fY
  |exact bk _
  |exact aJ (bk _)
  |simp[aJ,bk]
def Wm(lo hi:Option (Option (IntKind×Int)))(len:Nat)(f:Nat->Nat->D):Xx λK=>lX lo hi len λl h=>K (f l h):=by
 unfold lX;split<;>first
  |exact bk _
  |exact aJ (aJ (bk _))
  |exact aJ (aJ (aJ (bk _)))
  |exact fY
def qeP{d:D}{H:ab}{F:List D->(D->Prop)->Prop}(h:∀es,Xx (F es)):Xx λK=>IM d H λes=>F es K:=by
 unfold IM;split;grind;grind
 ·split;simp_all [aJ]
  ·exact fY
 ·exact fY
theorem qeO(o:MOp)(ds:List D)(H:ab):Xx λK=>Dd o ds H K:=by
 unfold Dd;split
 ·exact qeP λes=>aJ (aJ (qab (uv λa=>uv λv=>kp (kp (bk _))) (kp (bk _))))
 simp[qeP,bk]
 ·split;simp[aJ,bk]
  ·unfold Fa;split
   ·split
    ·exact aJ (aJ (aJ (aJ (aJ (uv λ_=>uv λ_=>kp (kp (bk _)))))))
    simp[fY]
   simp[fY]
  ·exact aJ fY
 ·refine aJ (aJ ?_);unfold qkP;split<;>first|exact bk _|exact fY
 ·exact fY
theorem qaa(c:COp)(a:Sg)(Hr:ab):Xx λK=>ak c a Hr K:=by
 unfold ak;split<;>first
  |exact bk _
  |exact fY
  |exact Ts a _ _
  |exact aJ (bk _)
  |skip
 all_goals
  (repeat' split)<;>first
    |exact bk _
    |exact fY
    |exact qab (kp (bk _)) (kp (bk _))
    |exact aJ (bk _)
    |exact aJ (aJ (bk _))
    |exact aJ (aJ (aJ (bk _)))
    |exact aJ (aJ (aJ (aJ (bk _))))
    |exact aJ (aJ (aJ (aJ (uv λ_=>kp (bk _)))))
    |exact aJ (aJ (aJ (uv λ_=>kp (bk _))))
    |exact aJ (aJ (uv λ_=>kp (bk _)))
    |exact aJ (qgH _ _ _ _)
    |exact kp (bk _)
    |exact aJ (kp (bk _))
    |exact aJ fY
    |exact aJ (aJ (Wm _ _ _ _))
    |exact aJ (Wm _ _ _ _)
    |exact Wm _ _ _ λ_ _=>_
    |grind [qeO]
    |skip
def xh(H:ab)(dst:Option Nat)(u:Option Res):ab:=
 match dst,u with
 |some t,some r=>aj H t (some r)
 | _,_=>H
def LinU0(dst:Option Nat)(F:ab->(D->ab->Prop)->Prop):Prop:=
 ∃(pre:Prop) (out:D->Option Res->Prop),∀H K,F H K↔ (pre/\∀d u,out d u->K d (xh H dst u))
def MQ(H:ab):Option Nat->Option Res
 |some t=>H t
 |none=>none
def LinU1(wid:Option Nat)(F:ab->(D->ab->Prop)->Prop):Prop:=
 ∀a,∃(pre:Prop) (out:D->Option Res->Prop),∀H,MQ H wid=a->∀K,F H K↔ (pre/\∀d u,out d u->K d (xh H wid u))
def LinU0.lin1{dst:Option Nat}{F:ab->(D->ab->Prop)->Prop}(h:LinU0 dst F):LinU1 dst F:=λ_=>by
 obtain⟨pre,out,h⟩:=h;exact⟨pre,out,λH _ K=>h H K⟩
theorem QH(H:ab)(dst:Option Nat):xh H dst none=H:=by cases dst<;>rfl
def Wn{dst:Option Nat}{G:(D->Prop)->Prop}(h:Xx G):LinU0 dst λH K=>G λd=>K d H:=by
 obtain⟨pre,out,h⟩:=h;refine⟨pre,λd u=>out d/\u=none,λH K=>?_⟩;dsimp only;rw[h];constructor;grind [QH]
 ·rintro⟨a,b⟩;exact⟨a,λd h1=>by have:=b d none ⟨h1,rfl⟩;grind [QH]⟩
theorem aF(dst:Option Nat):LinU0 dst λ_ _=>False:=⟨False,λ_ _=>True,λ_ _=>⟨λh=>h.elim,λh=>h.1⟩⟩
def pq{t:Nat}{α:Type}{A:Prop}(f:α->D)(r:α->Res):LinU0 (some t) λH K=>A/\∀b,K (f b) (aj H t (some (r b))):=by
 refine⟨A,λd u=>∃b,d=f b/\u=some (r b),λH K=>?_⟩;constructor
 ·rintro⟨a,h⟩;exact⟨a,λd u ⟨b,h1,h2⟩=>by subst h1;subst h2;exact h b⟩
 ·rintro⟨a,h⟩;exact⟨a,λb=>h _ _ ⟨b,rfl,rfl⟩⟩
def LinU0.congr{dst:Option Nat}{F G:ab->(D->ab->Prop)->Prop}(h:LinU0 dst F)(a:∀H K,G H K↔F H K):LinU0 dst G:=by
 obtain⟨pre,out,h⟩:=h;exact⟨pre,out,λH K=>(a H K).trans (h H K)⟩
def iQ{S:Nat->Spc}{c:COp}{dst:Option Nat}{a:Sg}{Hr H:ab}{K:D->ab->Prop}(h:c.isRead=true):aw S c dst a Hr H K↔ak c a Hr λd=>K d H:=by
 cases c<;>first|exact qHB|(simp[COp.isRead]at h;done)|skip
 ·rename_i el im x;cases im;grind [COp.isRead];rfl
 ·rename_i b xs;cases b<;>first|(simp[COp.isRead,MOp.isRead]at h;done)|rfl
def qj9{dst:Option Nat}{n:Nat}{d:D}{Hr:ab}{F:List D->ab->(D->ab->Prop)->Prop}(h:∀es,LinU0 dst (F es)):LinU0 dst λH K=>mQ n d Hr λes=>F es H K:=by
 have a:∀{A:Prop} {G:ab->(D->ab->Prop)->Prop},LinU0 dst G->LinU0 dst λH K=>A/\G H K:=λ{A G} h=>by
  obtain⟨pre,out,h⟩:=h;exact⟨A/\pre,out,λH K=>by grind⟩
 unfold mQ;split;simp_all
 ·split;simp_all;grind [aF]
 grind
 ·split
  ·exact a (a (a (h _)))
  grind [aF]
 grind [aF]
def qgI{dst:Option Nat}{n:Nat}{d:D}{Hr:ab}{F:List D->ab->(D->ab->Prop)->Prop}(h:∀es,LinU0 dst (F es)):LinU0 dst λH K=>uP n d Hr λes=>F es H K:=by
 unfold uP;split
 ·rename_i s;obtain⟨pre,out,h⟩:=h (HV s);exact⟨n=1/\pre,out,λH K=>by grind⟩
 ·exact qj9 h
theorem qka{wid:Option Nat}{n:Nat}{d:D}{Hr:ab}{b:Option Res}{F:List D->ab->(D->ab->Prop)->Prop}
 (h:∀es,∃(pre:Prop) (out:D->Option Res->Prop),∀H,MQ H wid=b->∀K,F es H K↔ (pre/\∀d u,out d u->K d (xh H wid u))):
 ∃(pre:Prop) (out:D->Option Res->Prop),∀H,MQ H wid=b->∀K,(mQ n d Hr λes=>F es H K) ↔ (pre/\∀d u,out d u->K d (xh H wid u)):=by
 have a:∀{A:Prop} {G:ab->(D->ab->Prop)->Prop},(∃(pre:Prop) (out:D->Option Res->Prop),∀H,MQ H wid=b->∀K,G H K↔ (pre/\∀d u,out d u->K d (xh H wid u)))->
  ∃(pre:Prop) (out:D->Option Res->Prop),∀H,MQ H wid=b->∀K,(A/\G H K) ↔ (pre/\∀d u,out d u->K d (xh H wid u)):=λ{A G} h=>by
  obtain⟨pre,out,h⟩:=h;exact⟨A/\pre,out,λH c K=>by grind⟩
 have no:∃(pre:Prop) (out:D->Option Res->Prop),∀H,MQ H wid=b->∀K:D->ab->Prop,False↔ (pre/\∀d u,out d u->K d (xh H wid u)):=⟨False,λ_ _=>True,λ_ _ _=>⟨λh=>h.elim,λh=>h.1⟩⟩
 unfold mQ;split
 ·exact a (h _)
 ·split
  ·exact a (a (h _))
  omega
 simp_all
 ·split
  ·exact a (a (a (h _)))
  omega
 omega
def qgL{wid:Option Nat}{n:Nat}{d:D}{Hr:ab}{a:Option Res}{F:List D->ab->(D->ab->Prop)->Prop}
 (h:∀es,∃(pre:Prop) (out:D->Option Res->Prop),∀H,MQ H wid=a->∀K,F es H K↔ (pre/\∀d u,out d u->K d (xh H wid u))):
 ∃(pre:Prop) (out:D->Option Res->Prop),∀H,MQ H wid=a->∀K,(uP n d Hr λes=>F es H K) ↔ (pre/\∀d u,out d u->K d (xh H wid u)):=by
 unfold uP;split
 ·rename_i s;obtain⟨pre,out,h⟩:=h (HV s);exact⟨n=1/\pre,out,λH b K=>by grind⟩
 ·exact qka h
theorem qgK(S:Nat->Spc)(c:COp)(dst:Option Nat)(j:Sg)(Hr:ab)(F:∀r el n b x y,c≠ .append (some r) el n b x y)(I:∀r sz x y,c≠ .store (some r) sz x y)(J:∀r f args,c≠ .callb r f args):LinU0 dst λH K=>aw S c dst j Hr H K:=by
 by_cases q:c.isRead=true;simp_all [Wn,qaa,iQ];cases c
 case call f args=>
  simp only[aw];cases S f with
  |pure s=>exact Wn (G:=λK=>s.pre (args.map (ev j))/\∀r,s.post (args.map (ev j)) r->K r) (aJ (uv λr=>kp (bk r)))
  |none=>exact aF dst
  | gen A M=>
    cases dst with
    |none=>exact aF none
    | some t=>
      by_cases C:qwX A
      ·obtain⟨p,o,h⟩:=id C;refine⟨p (args.map (ev j)),λd u=>∃w,u=some w/\o t (args.map (ev j)) d w,λH K=>?_⟩;simp only[qgi];rw[h t];constructor
       ·rintro⟨_,a,b⟩;exact⟨a,λd u ⟨w,e,h1⟩=>by subst e;exact b d w h1⟩
       ·rintro⟨a,b⟩;exact⟨C,a,λd u h1=>b d (some u) ⟨u,rfl,h1⟩⟩
      ·exact(aF (some t)).congr λH K=>⟨λh=>C h.1,λh=>h.elim⟩
 case callb r f args=>grind
 case callv f args=>
  simp only[aw];split
  ·rename_i g caps _;split
   ·rename_i s _;exact Wn (G:=λK=>s.pre (args.map (ev j) ++caps)/\∀r,s.post (args.map (ev j) ++caps) r->K r) (aJ (uv λr=>kp (bk r)))
   grind [aF]
  grind [aF]
 case alloc el z=>
  cases dst with
  |none=>simp[aw,bj,aF]
  |some t=>exact(pq (t:=t) (A:=True) (λb=>D.bptr t b 0) (λb=>Res.box b (z.map rk))).congr (λH K=>by simp[aw,bj])
 case box el im x=>
  cases im with
  |true=>exact absurd rfl q
  | false=>
    cases dst with
    |none=>simp[aw,bj,aF]
    |some t=>simp[pq,aw,bj]
 case tbx el x=>
  cases dst with
  |none=>simp[aw,bj,aF]
  |some t=>simp[pq,aw,bj]
 case nslice el n=>
  cases dst with
  |none=>simp[aw,bj,aF]
  |some t=>exact(pq (t:=t) (A:=True) (λx=>D.own t x) (λx=>Res.row x el n [])).congr (λH K=>by simp[aw,bj])
 case mslice el n N=>
  cases dst with
  |none=>simp[aw,bj,aF]
  |some t=>simp[pq,aw,bj]
 case mkslice el n b agg z l cc=>
  cases dst with
  |none=>simp[aw,bj,aF]
  | some t=>
    simp only[aw,bj];split
    ·rename_i O Q;rename_i U E W c';exact(pq (t:=t) (A:=0<=E/\E<=c'/\b*c'<=140737488355328/\c'<=140737488355328) (λx=>D.own t x) (λx=>Res.row x el n (List.replicate E.toNat (if agg then .agg (z.map rk)else rk (z.headD (.bool false)))))).congr (λH K=>by grind)
    grind [aF]
 case store rt sz x y=>
  cases rt with
  |some r=>grind
  |none=>exact(aF dst).congr λH K=>⟨λh=>h.2.2.elim,λh=>h.elim⟩
 case srange x=>exact aF dst
 case snext x=>exact aF dst
 case append rt el n b x y=>
  cases rt with
  |some r=>grind
  | none=>
    simp only[aw];refine qgI λes2=>?_
    split
    ·rename_i t _;exact(pq (t:=t) (A:=es2.length*b<=140737488355328/\es2.length<=140737488355328) (λv=>D.own t v) (λv=>Res.row v el n es2)).congr (λH K=>by grind)
    grind [aF]
 case clear n agg z x=>exact aF dst
 case copy n x y=>exact aF dst
 case appmk el n b agg z x c=>
  simp only[aw,bj];split
  ·cases dst with
   |none=>exact aF _
   | some t=>
     cases hc:mM (ev j c)with
     |none=>exact aF _
     | some p=>
       obtain⟨k,c'⟩:=p;exact(pq (t:=t) (A:=0<=c'/\c'*b<=140737488355328/\c'<=140737488355328) (λx=>D.own t x) (λx=>Res.row x el n (List.replicate c'.toNat (XA agg z)))).congr (λH K=>by grind)
  grind [aF]
 case m L xs=>
  cases L
  case mk=>
   cases xs with
   | nil=>
     cases dst with
     |none=>exact aF _
     |some t=>exact(pq (t:=t) (A:=True) (λx=>D.own t x) (λx=>Res.mrow x [])).congr (λH K=>by simp[aw,bj,iR])
   |cons x xs=>exact(aF dst).congr λH K=>qHB
  case upd=>exact(aF dst).congr λH K=>qHB
  case rng=>exact(aF dst).congr λH K=>qHB
  case next=>exact(aF dst).congr λH K=>qHB
  case del=>exact(aF dst).congr λH K=>qHB
  all_goals exact absurd rfl q
 all_goals exact absurd rfl q
theorem zL(H:ab)(wid:Option Nat):lR H wid []=H:=by
 grind [lR]
def qlR(H:ab)(t:Nat)(r:Res):lR H (some t) [(t,r)]=aj H t (some r):=by
 funext i;simp only[lR,aj];by_cases h:i=t
 ·subst h;rw[if_pos (show Gu (some i) i from rfl),if_pos rfl];simp
 grind
def qpc(wid:Option Nat)(F:ab->(D->ab->Prop)->Prop):Prop:=
 ∀a,∃(pre:Prop) (out:D->List (Nat×Res)->Prop),∀H,zl H wid=a->∀K,F H K↔ (pre/\∀d u,out d u->K d (lR H wid u))
def qEb(a:ab):Option Nat->Option Res
 |some t=>a t
 |none=>none
def qDZ(wid:Option Nat)(u:Option Res):List (Nat×Res):=match wid,u with
 |some t,some r=>[(t,r)]
 | _,_=>[]
theorem qft(H:ab)(wid:Option Nat)(u:Option Res):lR H wid (qDZ wid u)=xh H wid u:=by
 cases wid with
 |none=>rfl
 | some t=>cases u with
   |none=>exact zL H _
   |some r=>exact qlR H t r
def LinU1.lin{wid:Option Nat}{F:ab->(D->ab->Prop)->Prop}(h:LinU1 wid F):qpc wid F:=λa=>by
 obtain⟨pre,out,h⟩:=h (qEb a wid);refine⟨pre,λd b=>∃u,out d u/\b=qDZ wid u,λH c K=>?_⟩;have h1:MQ H wid=qEb a wid:=by
  cases wid with
  |none=>rfl
  | some t=>
    show H t=a t;rw[<-c];simp only[zl];rw[if_pos (show Gu (some t) t from rfl)]
 rw[h H h1 K];refine and_congr_right λ_=>⟨λhk d b ⟨u,ho,e⟩=>?_,λhk d u ho=>?_⟩
 grind [LinU1,qft]
 ·have:=hk d _ ⟨u,ho,rfl⟩;grind [LinU1,qft]
def LinU0.lin{dst:Option Nat}{F:ab->(D->ab->Prop)->Prop}(h:LinU0 dst F):qpc dst F:=h.lin1.lin
theorem qgJ(S:Nat->Spc)(c:COp)(dst:Option Nat)(w:Sg)(Hr:ab)(hb:¬ ∃r f args,c= .callb r f args):LinU1 (c.wid dst) λH K=>aw S c dst w Hr H K:=by
 by_cases h:∃r el n b x y,c= .append (some r) el n b x y
 ·obtain⟨r,el,n,b,x,y,rfl⟩:=h;intro C;simp only[aw,COp.wid];refine qgL λes2=>?_
  cases ev w x with
  | own id v=>
    cases C with
    | none=>
      refine⟨False,λ_ _=>True,λH a K=>?_⟩;have a:H r=none:=a;grind
    | some q=>
      cases q with
      | box b' cs=>
        refine⟨False,λ_ _=>True,λH a K=>?_⟩;have a:H r=some (.box b' cs):=a;grind
      | iter b' p s=>
        refine⟨False,λ_ _=>True,λH a K=>?_⟩;have a:H r=some (.iter b' p s):=a;grind
      | tbox b' p s=>
        refine⟨False,λ_ _=>True,λH a K=>?_⟩;have a:H r=some (.tbox b' p s):=a;grind
      | mrow k es'=>
        refine⟨False,λ_ _=>True,λH a K=>?_⟩;have a:H r=some (.mrow k es'):=a;grind
      | miter b' c' E=>
        refine⟨False,λ_ _=>True,λH a K=>?_⟩;have a:H r=some (.miter b' c' E):=a;grind
      | raw F=>
        refine⟨False,λ_ _=>True,λH a K=>?_⟩;have a:H r=some (.raw F):=a;grind
      | row k j t es=>
        refine⟨id=r/\k=v/\j=el/\t=n/\(es.length+es2.length) *b<=140737488355328/\es.length+es2.length<=140737488355328,λd u=>∃v,d= .own r v/\u=some (.row v el n (es++es2)),λH a K=>?_⟩;have a:H r=some (.row k j t es):=a;rw[a];constructor
        ·rintro⟨h1,h2,h3,h4,h5,h6,L⟩;exact⟨⟨h1,h2,h3,h4,h5,h6⟩,λd u ⟨v,I,J⟩=>by subst I;subst J;exact L v⟩
        ·rintro⟨⟨h1,h2,h3,h4,h5,h6⟩,L⟩;exact⟨h1,h2,h3,h4,h5,h6,λv=>L _ _ ⟨v,rfl,rfl⟩⟩
  | _=>exact⟨False,λ_ _=>True,λH a K=>⟨λh=>h.elim,λh=>h.1.elim⟩⟩
 ·by_cases hs:∃r sz x y,c= .store (some r) sz x y
  ·obtain⟨r,sz,x,y,rfl⟩:=hs;intro C;simp only[aw,COp.wid];have no:∃(pre:Prop) (out:D->Option Res->Prop),∀H,MQ H (some r)=C->∀K:D->ab->Prop,False↔ (pre/\∀d u,out d u->K d (xh H (some r) u)):=⟨False,λ_ _=>True,λ_ _ _=>⟨λh=>h.elim,λh=>h.1⟩⟩
   have l:∀{A:Prop} {G:ab->(D->ab->Prop)->Prop},(∃(pre:Prop) (out:D->Option Res->Prop),∀H,MQ H (some r)=C->∀K,G H K↔ (pre/\∀d u,out d u->K d (xh H (some r) u)))->
    ∃(pre:Prop) (out:D->Option Res->Prop),∀H,MQ H (some r)=C->∀K,(A/\G H K) ↔ (pre/\∀d u,out d u->K d (xh H (some r) u)):=λ{A G} h=>by
    obtain⟨pre,out,h⟩:=h;exact⟨A/\pre,out,λH a K=>by rw[h H a K,and_assoc]⟩
   refine l (l ?_);cases ev w x with
   | bptr id b off=>
     refine l ?_;cases C with
     | none=>
       refine⟨False,λ_ _=>True,λH a K=>?_⟩;have a:H r=none:=a;rw[a];exact⟨λh=>h.elim,λh=>h.1.elim⟩
     | some q=>
       cases q with
       | box b' cs=>
         refine⟨b'=b/\off+sz<=cs.length,λd u=>d= .undef/\u=some (.box b' (setAt cs off (ev w y).cells)),λH a K=>?_⟩;have a:H r=some (.box b' cs):=a;rw[a];constructor
         ·rintro⟨h1,h2,h3⟩;exact⟨⟨h1,h2⟩,λd u ⟨I,J⟩=>by subst I;subst J;exact h3⟩
         ·rintro⟨⟨h1,h2⟩,h3⟩;exact⟨h1,h2,h3 _ _ ⟨rfl,rfl⟩⟩
       | row k j t es=>
         refine⟨False,λ_ _=>True,λH a K=>?_⟩;have a:H r=some (.row k j t es):=a;rw[a];exact⟨λh=>h.elim,λh=>h.1.elim⟩
       | iter b' p s=>
         refine⟨False,λ_ _=>True,λH a K=>?_⟩;have a:H r=some (.iter b' p s):=a;rw[a];exact⟨λh=>h.elim,λh=>h.1.elim⟩
       | tbox b' p s=>
         refine⟨False,λ_ _=>True,λH a K=>?_⟩;have a:H r=some (.tbox b' p s):=a;rw[a];exact⟨λh=>h.elim,λh=>h.1.elim⟩
       | mrow k es'=>
         refine⟨False,λ_ _=>True,λH a K=>?_⟩;have a:H r=some (.mrow k es'):=a;rw[a];exact⟨λh=>h.elim,λh=>h.1.elim⟩
       | miter b' c' E=>
         refine⟨False,λ_ _=>True,λH a K=>?_⟩;have a:H r=some (.miter b' c' E):=a;rw[a];exact⟨λh=>h.elim,λh=>h.1.elim⟩
       | raw F=>
         refine⟨False,λ_ _=>True,λH a K=>?_⟩;have a:H r=some (.raw F):=a;rw[a];exact⟨λh=>h.elim,λh=>h.1.elim⟩
   | eptr id v n i off=>
     refine l ?_;cases C with
     | none=>
       refine⟨False,λ_ _=>True,λH a K=>?_⟩;have a:H r=none:=a;rw[a];exact⟨λh=>h.elim,λh=>h.1.elim⟩
     | some q=>
       cases q with
       | row k j t es=>
         refine⟨k=v/\t=n/\0<n/\off+sz<=n/\i<es.length,λd u=>d= .undef/\∃e,es[i]? =some e/\u=some (.row k j t (es.set i (if off=0/\sz=n then ev w y else .agg (setAt e.cells off (ev w y).cells)))),λH a K=>?_⟩;have a:H r=some (.row k j t es):=a;rw[a];constructor
         ·rintro⟨h1,h2,h3,h4,h5,h6⟩;exact⟨⟨h1,h2,h3,h4,h5⟩,λd u ⟨I,e,J,M⟩=>by subst I;subst M;exact h6 e J⟩
         ·rintro⟨⟨h1,h2,h3,h4,h5⟩,h6⟩;exact⟨h1,h2,h3,h4,h5,λe he=>h6 _ _ ⟨rfl,e,he,rfl⟩⟩
       | box b' cs=>
         refine⟨False,λ_ _=>True,λH a K=>?_⟩;have a:H r=some (.box b' cs):=a;rw[a];exact⟨λh=>h.elim,λh=>h.1.elim⟩
       | iter b' p s=>
         refine⟨False,λ_ _=>True,λH a K=>?_⟩;have a:H r=some (.iter b' p s):=a;rw[a];exact⟨λh=>h.elim,λh=>h.1.elim⟩
       | tbox b' p s=>
         refine⟨False,λ_ _=>True,λH a K=>?_⟩;have a:H r=some (.tbox b' p s):=a;rw[a];exact⟨λh=>h.elim,λh=>h.1.elim⟩
       | mrow k es'=>
         refine⟨False,λ_ _=>True,λH a K=>?_⟩;have a:H r=some (.mrow k es'):=a;rw[a];exact⟨λh=>h.elim,λh=>h.1.elim⟩
       | miter b' c' E=>
         refine⟨False,λ_ _=>True,λH a K=>?_⟩;have a:H r=some (.miter b' c' E):=a;rw[a];exact⟨λh=>h.elim,λh=>h.1.elim⟩
       | raw F=>
         refine⟨False,λ_ _=>True,λH a K=>?_⟩;have a:H r=some (.raw F):=a;rw[a];exact⟨λh=>h.elim,λh=>h.1.elim⟩
   | _=>exact no
  have N:c.wid dst=dst:=by
   cases c
   case callb r f args=>exact absurd ⟨r,f,args,rfl⟩ hb
   case append rt el n b x y=>
    cases rt with
    |none=>rfl
    |some r=>exact absurd ⟨r,el,n,b,x,y,rfl⟩ h
   case store rt sz x y=>
    cases rt with
    |none=>rfl
    |some r=>exact absurd ⟨r,sz,x,y,rfl⟩ hs
   all_goals rfl
  rw[N];exact(qgK S c dst w Hr (λr el n b x y e=>h ⟨r,el,n,b,x,y,e⟩) (λr sz x y e=>hs ⟨r,sz,x,y,e⟩) (λr f args e=>hb ⟨r,f,args,e⟩)).lin1
theorem PP(S:Nat->Spc)(c:COp)(dst:Option Nat)(a:Sg)(Hr:ab):qpc (c.wid dst) λH K=>aw S c dst a Hr H K:=by
 by_cases hb:∃r f args,c= .callb r f args
 ·obtain⟨r,f,args,rfl⟩:=hb;intro b;simp only[aw,COp.wid];have no:∃(pre:Prop) (out:D->List (Nat×Res)->Prop),∀H,zl H (some r)=b->∀K:D->ab->Prop,False↔ (pre/\∀d u,out d u->K d (lR H (some r) u)):=⟨False,λ_ _=>True,λ_ _ _=>⟨λh=>h.elim,λh=>h.1⟩⟩
  cases hs:S f with
  |none=>exact no
  |pure k=>exact no
  | gen A l=>
    by_cases j:qpd r A (args.map (ev a))
    ·obtain⟨p,o,h⟩:=id j;refine⟨p b,λd u=>o b d u,λH q K=>?_⟩;grind [qq,Spc,qpd,Ta]
    ·exact⟨False,λ_ _=>True,λH _ K=>⟨λh=>absurd h.1 j,λh=>h.1.elim⟩⟩
 ·exact(qgJ S c dst a Hr hb).lin
theorem PQ(S:Nat->Spc)(x:CI)(a:Sg)(Hr:ab):qpc x.wid λH K=>QV S x a Hr H K:=by
 cases x with
 |frz t n=>exact(aF _).lin
 | op dst g c=>
   intro j;obtain⟨pre,out,h⟩:=PP S c dst a Hr j;have k:∀H,zl H (c.wid dst)=j->∀K,aw S c dst a Hr H K↔ (pre/\∀d u,out d u->K d (lR H (c.wid dst) u)):=h;cases g with
   |none=>exact⟨pre,out,h⟩
   | some l=>
     obtain⟨s,b⟩:=l;simp only[QV,CI.wid];split
     ·rename_i t r;refine⟨t=b->pre,λd u=>(t=b/\out d u)\/(t=(!b)/\d= .undef/\u=[]),λH p K=>?_⟩;rw[k H p K];constructor;grind [aw,D,zL]
      ·rintro⟨h1,h2⟩;refine⟨λe=>⟨h1 e,λd u q=>h2 d u (.inl ⟨e,q⟩)⟩,λe=>?_⟩;have:=h2 .undef [] (.inr ⟨e,rfl,rfl⟩);grind [aw,D,zL]
     ·exact⟨True,λd u=>d= .undef/\u=[],λH _ K=>⟨λh=>⟨trivial,λd u ⟨h1,h2⟩=>by grind [aw,D,zL]⟩,λh=>by have:=h.2 .undef [] ⟨rfl,rfl⟩;grind [aw,D,zL]⟩⟩
     ·exact(aF _).lin j
def Fg{c a:Sg} :∀(b:List (Nat×Nat×Operand)) (cs:List D) (K:List D->Prop),(∀x∈b.map (·.2.2),ev c x=ev a x)->(kE c b cs K↔kE a b cs K)
 | [],cs,K,_=>qHB
 | (off,sz,x)::r,cs,K,h=>by
  have d:=h x (by simp);simp only[kE,d];rw[Fg r _ K (λy j=>h y (by grind))]
theorem F0{c:COp}{b a:Sg}{Hr:ab}{K:D->Prop}(h:∀x∈c.ops,ev b x=ev a x):ak c b Hr K↔ak c a Hr K:=by
 cases c
 case build z j=>simp only[ak];exact Fg j _ _ h
 case box el im x=>cases im<;>simp only[ak];rw[h x (by simp[COp.ops])]
 case bslice el n j=>
  have d:∀x∈j,ev b x=ev a x:=h;simp only[ak];rw[qGZ d]
 case clo f caps=>
  have d:∀x∈caps,ev b x=ev a x:=h;simp only[ak];rw[qGZ d]
 case slice n x lo hi=>
  simp only[ak];rw[h x (by simp[COp.ops])];have h1:lo.map (λo=>mM (ev b o))=lo.map (λo=>mM (ev a o)):=by cases lo<;>simp;rw[h _ (by simp[COp.ops])]
  have h2:hi.map (λo=>mM (ev b o))=hi.map (λo=>mM (ev a o)):=by cases hi<;>simp;rw[h _ (by simp[COp.ops])]
  rw[h1,h2]
 case sslice x lo hi=>
  simp only[ak];rw[h x (by simp[COp.ops])];have h1:lo.map (λo=>mM (ev b o))=lo.map (λo=>mM (ev a o)):=by cases lo<;>simp;rw[h _ (by simp[COp.ops])]
  have h2:hi.map (λo=>mM (ev b o))=hi.map (λo=>mM (ev a o)):=by cases hi<;>simp;rw[h _ (by simp[COp.ops])]
  rw[h1,h2]
 case m k xs=>
  have d:∀x∈xs,ev b x=ev a x:=h;simp only[ak];rw[qGZ d]
 case mm mx xs=>
  match xs with
  | []=>simp[ak]
  | [x]=>simp[ak]
  | [x,y]=>simp only[ak];rw[h x (by simp[COp.ops]),h y (by simp[COp.ops])]
  | [x,y,z]=>simp only[ak];rw[h x (by simp[COp.ops]),h y (by simp[COp.ops]),h z (by simp[COp.ops])]
  | _::_::_::_::_=>simp[ak]
 case pick q x y=>simp only[ak];rw[h q (by simp[COp.ops]),h x (by simp[COp.ops]),h y (by simp[COp.ops])]
 all_goals simp only[ak]
 all_goals first
  |(rename_i x;rw[h x (by simp[COp.ops])];done)
  |(rename_i x y;rw[h x (by simp[COp.ops]),h y (by simp[COp.ops])];done)
  |(rename_i x i;rw[h x (by simp[COp.ops])];done)
  |skip
theorem qgh{S:Nat->Spc}{c:COp}{dst:Option Nat}{d a:Sg}{Hr H:ab}{K:D->ab->Prop}(h:∀x∈c.ops,ev d x=ev a x):aw S c dst d Hr H K↔aw S c dst a Hr H K:=by
 cases c
 case call f args=>
  grind [aw,List.map_congr_left,COp.ops]
 case callv f args=>
  simp only[aw];rw[h f (by simp[COp.ops]),qGZ (λx q=>h x (by grind [COp.ops]))]
 case callb r f args=>
  grind [aw,List.map_congr_left,COp.ops]
 case alloc el z=>rfl
 case box el im x=>
  cases im with
  |true=>exact(iQ rfl).trans ((F0 h).trans (iQ rfl).symm)
  |false=>simp_all [aw,bj,COp.ops]
 case tbx el x=>simp_all [aw,bj,COp.ops]
 case nslice el n=>rfl
 case mslice el n k=>
  have j:∀x∈k,ev d x=ev a x:=h;simp only[aw,bj];rw[qGZ j]
 case mkslice el n b agg z l cc=>simp_all [aw,bj,COp.ops]
 case store rt sz x y=>simp_all [aw,COp.ops]
 case srange x=>rfl
 case snext x=>rfl
 case append rt el n b x y=>
  grind [aw,COp.ops]
 case clear n agg z x=>rfl
 case copy n x y=>rfl
 case appmk el n b agg z x c=>simp_all [aw,bj,COp.ops]
 case m p xs=>
  have j:∀x∈xs,ev d x=ev a x:=h;cases p<;>first
   |exact(iQ rfl).trans ((F0 h).trans (iQ rfl).symm)
   |exact qHB
   |(simp only[aw,bj];rw[qGZ j])
 all_goals exact(iQ rfl).trans ((F0 h).trans (iQ rfl).symm)
def qpo:Operand->List Nat
 | .tmp t=>[t]
 | _=>[]
def CI.reads:CI->List Nat
 | .op _ g c=>c.ops.flatMap qpo++ (match g with|some (s,_)=>[s]|none=>[])
 | .frz _ _=>[]
def Kz{S:Nat->Spc}{x:CI}{d a:Sg}{Hr H:ab}{K:D->ab->Prop}(h:∀t∈x.reads,d t=a t):QV S x d Hr H K↔QV S x a Hr H K:=by
 cases x with
 |frz t n=>rfl
 | op dst g c=>
   have j:∀y∈c.ops,ev d y=ev a y:=λy l=>by
    cases y with
    |tmp t=>exact h t (by simp only[CI.reads,qGi,qHW];grind [qpo])
    | _=>rfl
   have hp:=qgh (S:=S) (dst:=dst) (Hr:=Hr) (H:=H) (K:=K) j;cases g with
   |none=>exact hp
   | some k=>
     obtain⟨s,b⟩:=k;simp only[QV];rw[<-h s (by simp[CI.reads])];grind
def Xz(Hr H:ab):Prop:=∀i r,Hr i=some r->H i=some r
theorem qj1{d:D}{Hr H:ab}{K b:List D->Prop}(a:Xz Hr H)(hk:∀l,K l->b l)(h:IM d Hr K):IM d H b:=by
 unfold IM at h ⊢;split at h<;>(try simp only at h ⊢)
 grind;grind
 ·split at h
  ·rename_i e;rw[a _ _ e];grind
  grind
def qjT{c:MOp}{ds:List D}{Hr H:ab}{K:D->Prop}(b:Xz Hr H)(a:Dd c ds Hr K):Dd c ds H K:=by
 unfold Dd at a ⊢;split at a;grind [qj1];grind [qj1]
 ·refine⟨a.1,?_⟩;have a:=a.2;split at a
  ·rename_i e;rw[b _ _ e];omega
  ·rename_i e;rw[b _ _ e];refine⟨a.1,?_⟩;have a:=a.2;unfold Fa at a ⊢;split at a
   ·rename_i e;rw[b _ _ e];omega
   grind
  grind
 omega;omega
theorem qge{c:COp}{d:Sg}{Hr H:ab}{K:D->Prop}(b:Xz Hr H)(a:ak c d Hr K):ak c d H K:=by
 cases c
 case load agg sz x=>
  simp only[ak]at a ⊢;split at a;omega
  ·split at a
   ·rename_i h;rw[b _ _ h];omega
   grind
  ·split at a
   ·rename_i h;rw[b _ _ h];omega
   grind
  omega
 case iaddr n x i=>
  simp only[ak]at a ⊢;split at a
  ·split at a;omega
   ·split at a
    ·rename_i h;rw[b _ _ h];omega
    grind
   omega;omega
  omega
 case slice n x lo hi=>
  simp only[ak]at a ⊢;split at a;omega
  ·split at a
   ·rename_i h;rw[b _ _ h];exact a
   ·exact a.elim
  ·exact a
  ·exact a
  ·exact a.elim
 case bstr x=>
  simp only[ak]at a ⊢;split at a
  ·split at a
   ·rename_i h;rw[b _ _ h];exact a
   ·exact a.elim
  ·exact a
  ·exact a.elim
 case len x=>
  simp only[ak]at a ⊢;split at a
  ·exact a
  ·split at a
   ·rename_i h;rw[b _ _ h];exact a
   ·exact a.elim
  ·exact a
  ·exact a
  ·exact a.elim
 case box el im x=>cases im<;>exact a
 case m j xs=>exact qjT b a
 case mm mx xs=>
  match xs,a with
  | [],a=>exact a
  | [x],a=>exact a
  | [x,y],a=>exact a
  | [x,y,z],a=>exact a
  | _::_::_::_::_,a=>exact a
 all_goals exact a
theorem qqG{n:Nat}{d:D}{Hr H:ab}{K b:List D->Prop}(a:Xz Hr H)(hk:∀l,K l->b l)(h:mQ n d Hr K):mQ n d H b:=by
 unfold mQ at h ⊢;split at h<;>(try simp only at h ⊢)
 grind
 ·split at h
  ·rename_i e;rw[a _ _ e];grind
  grind
 grind
 ·split at h
  ·rename_i e;rw[a _ _ e];grind
  grind
def qnh{n:Nat}{d:D}{Hr H:ab}{K a:List D->Prop}(b:Xz Hr H)(hk:∀l,K l->a l)(h:uP n d Hr K):uP n d H a:=by
 unfold uP at h ⊢;grind [qqG]
theorem qjx{S:Nat->Spc}{c:COp}{dst:Option Nat}{p:Sg}{Hr H:ab}{K:D->ab->Prop}(j:Xz Hr H)(a:aw S c dst p Hr H K):aI S c dst p H K:=by
 by_cases d:c.isRead=true
 ·have h:=qge j ((iQ d).1 a);cases c<;>first|exact h|(simp[COp.isRead]at d;done)|skip
  ·rename_i el im x;cases im;grind [COp.isRead]
   ·exact h
  ·rename_i k xs;cases k<;>first|(simp[COp.isRead,MOp.isRead]at d;done)|exact h
 ·cases c
  case call f args=>
   simp only[aw]at a;simp only[aI];cases h:S f with
   |pure q=>rw[h]at a;exact a
   |none=>rw[h]at a;exact a.elim
   | gen A s=>
     rw[h]at a;cases dst with
     |none=>exact a.elim
     |some t=>exact a.2
  case callv f args=>
   simp only[aw]at a;simp only[aI];split at a
   ·rename_i u;rw[u];split at a
    ·rename_i q h;simp only[h];exact a
    grind
   grind
  case callb r f args=>
   simp only[aw]at a;simp only[aI];cases h:S f with
   |pure q=>rw[h]at a;exact a.elim
   |none=>rw[h]at a;exact a.elim
   |gen A s=>rw[h]at a;exact a.2
  case tbx el x=>exact a
  case box el im x=>
   cases im
   ·exact a
   ·exact absurd rfl d
  case store rt sz x y=>
   obtain⟨h1,h2,a⟩:=a;simp only[aI,bj];grind
  case srange x=>exact a.elim
  case snext x=>exact a.elim
  case append rt el n b x y=>
   simp only[aw]at a;simp only[aI,bj];refine qnh j ?_ a;grind
  case clear n agg z x=>exact a.elim
  case copy n x y=>exact a.elim
  case appmk el n b agg z x c=>exact a
  case alloc el z=>exact a
  case nslice el n=>exact a
  case mslice el n w=>exact a
  case mkslice el n b agg z l cc=>exact a
  case m k xs=>
   cases k
   case mk=>exact a
   case upd=>exact a.elim
   case rng=>exact a.elim
   case next=>exact a.elim
   case del=>exact a.elim
   all_goals exact absurd rfl d
  all_goals exact absurd rfl d
theorem qfI{P:Program}{o:Oper}{a:Act}{w:World}{next:Act->World->Prop}(h:o.wp P a w next λ_ _ _=>False):∃j w',next j w':=by
 unfold Oper.wp at h;generalize (execOp a.eval o).run P w=r at h;cases r with
 | ok k w'=>
   cases k<;>simp only[Oper.upon]at h<;>first|exact⟨_,_,h⟩|exact h.elim|skip
   case enter f args=>
    obtain⟨e,b,fr,d,_⟩:=h [];cases e with
    |returned v=>grind
    |panicked c=>grind
    |outgrown=>obtain⟨_,_,l⟩:=d;grind
   case row row args=>
    obtain⟨v,b,d,_⟩:=h default [];grind
 |halt x w'=>cases x<;>simp only[Oper.upon]at h
section
variable {P:Program}{im:List Nat}{E:BU}{S:Nat->Spc}{ops:Array Oper}
theorem iq{N:Nat}{o:Oper}{x:CI}(h:eU P im N ops o=some x):∃g c,x= .op o.dst g c/\cV P im o=some c/\IV ops o=some g/\∀t,o.dst=some t->t<N:=by
 unfold eU at h;simp only[qF5,qF3]at h;grind
theorem Tc{o:Oper}{x:CI}{k:Sg}{Hr H:ab}{a:Act}{w:World}{K:D->ab->Prop}{z:List PanicEntry->Prop}(J:dN E.dq P z S x)(L:eU P im E.N ops o=some x)(p:St E k H a w)(y:Xz Hr H)(F:QV S x k Hr H K)
 {next:Act->World->Prop} {Q:Exit->Act->World->Prop} (q:∀c w',qdG E z c w'->Q (.panic c) a w') (d:∀r H' v w',K r H'->St E (fK k o.dst r) H' (a.put o.dst v) w'->next (a.put o.dst v) w'):
 if Region.wanted o (yielded ops a.tmps)then o.wp P a w next Q else next (a.put o.dst undef) w:=by
 obtain⟨g,c,rfl,hc,M,j⟩:=iq L;have t:=p;obtain⟨O,U,tp,W,I⟩:=p;have A:nl g k (λl=>l=k->aw S c o.dst k Hr H K) (λl=>l=k->K .undef H):=by
  cases g with
  |none=>exactλ_=>F
  | some Y=>
    obtain⟨s,b⟩:=Y;simp only[QV]at F;simp only[nl];grind
 rcases Dh M I A with⟨h,u⟩|⟨h,C⟩
 ·rw[if_pos h];exact LC J hc W O U I j (qjx y (u rfl)) q d
 ·rw[if_neg (by grind)];exact d _ _ _ _ (C rfl) (t.skip o.dst j)
def qcI{o:Oper}{x:CI}{b:Sg}{Hr H:ab}{a:Act}{w:World}{K:D->ab->Prop}(d:dN E.dq P Z2 S x)(p:eU P im E.N ops o=some x)(j:St E b H a w)(k:Xz Hr H)(q:QV S x b Hr H K):
 ∃r H' l w',K r H'/\St E (fK b o.dst r) H' l w':=by
 have h:=Tc (Q:=λ_ _ _=>False) (next:=λl w'=>∃r H',K r H'/\St E (fK b o.dst r) H' l w') d p j k q (λc w' h=>h.1) (λr H' v w' hk hs=>⟨r,H',hk,hs⟩);grind [D,qfI]
def lS(x y:CI):Bool:=
 (match x.dst with|some d=>!y.reads.contains d|none=>true) && (match y.dst with|some e=>!x.reads.contains e|none=>true) &&
 (match x.dst,y.dst with|some d,some e=>d !=e|_,_=>true) && (match x.wid,y.wid with|some p,some q=>Wu p !=Wu q|_,_=>true)
def QI{x y:CI}(h:lS x y=true):(∀d,x.dst=some d->d∉y.reads)/\(∀e,y.dst=some e->e∉x.reads)/\(∀d e,x.dst=some d->y.dst=some e->d≠e)/\(∀p q,x.wid=some p->y.wid=some q->Wu p≠Wu q):=by
 unfold lS at h;grind
theorem Vs{H:ab}{p q:Option Nat}(h:∀d e,p=some d->q=some e->Wu d≠Wu e)(u:List (Nat×Res)):zl (lR H p u) q=zl H q:=by
 funext i;simp only[zl];by_cases a:Gu q i
 ·rw[if_pos a,if_pos a];cases q with
  |none=>exact a.elim
  | some q=>
    cases p with
    |none=>rfl
    | some p=>
      have hn:¬Gu (some p) i:=λhp=>h p q rfl rfl (Eq.trans (Eq.symm hp) a)
      simp_all [lR]
 grind
def qfV{a:Sg}{t s:Nat}(h:t≠s)(d e:D):fK (fK a (some t) d) (some s) e=fK (fK a (some s) e) (some t) d:=by
 funext k;simp only[fK,upd];grind
def qb1{a:Sg}{t s:Option Nat}(h:∀d e,t=some d->s=some e->d≠e)(d e:D):fK (fK a t d) s e=fK (fK a s e) t d:=by
 cases t with
 |none=>rfl
 | some t=>
   cases s with
   |none=>rfl
   |some s=>exact qfV (h t s rfl rfl) d e
def qdy{H:ab}{t s:Option Nat}(h:∀d e,t=some d->s=some e->Wu d≠Wu e)(u v:List (Nat×Res)):lR (lR H t u) s v=lR (lR H s v) t u:=by
 funext i;have hn:¬(Gu t i/\Gu s i):=λ⟨h1,h2⟩=>by
  cases t with
  |none=>exact h1
  | some t=>cases s with
    |none=>exact h2
    |some s=>exact h t s rfl rfl (Eq.trans (Eq.symm h1) h2)
 by_cases h1:Gu t i;simp_all [lR];simp_all [lR]
def qiu{a:Sg}{t:Nat}{d:D}{l:List Nat}(h:t∉l):∀s∈l,fK a (some t) d s=a s:=by
 intro s hs;simp only[fK,upd];grind
def Km{a:Sg}{t:Option Nat}{d:D}{l:List Nat}(h:∀s,t=some s->s∉l):∀s∈l,fK a t d s=a s:=by
 cases t with
 |none=>exactλ_ _=>rfl
 |some t=>exact qiu (h t rfl)
theorem Yu{x:CI×ab}{K:Sg->ab->Prop} :∀(p r:List (CI×ab)) (b:Sg) (H:ab),(∀y∈p,lS y.1 x.1=true)->qhZ S (p++x::r) b H K->∀(k:ab),zl H x.1.wid=k->
 ∀(pre:Prop) (out:D->List (Nat×Res)->Prop),(∀H,zl H x.1.wid=k->∀K,QV S x.1 b x.2 H K↔ (pre/\∀d u,out d u->K d (lR H x.1.wid u)))->∀d u,out d u->qhZ S (p++r) (fK b x.1.dst d) (lR H x.1.wid u) K
 | [],r,b,H,_,A,k,s,pre,out,a,d,u,c=>((a H s _).1 A).2 d u c
 | y::p,r,b,H,t,A,k,s,pre,out,a,d,u,c=>by
   obtain⟨h1,h2,h3,h4⟩:=QI (t y (by simp));obtain⟨F,I,h⟩:=PQ S y.1 b y.2 (zl H y.1.wid);have h:∀H',zl H' y.1.wid=zl H y.1.wid->∀K,QV S y.1 b y.2 H' K↔ (F/\∀d u,I d u->K d (lR H' y.1.wid u)):=h;have w:=(h H rfl _).1 A;have l:∀H K,QV S y.1 (fK b x.1.dst d) y.2 H K↔QV S y.1 b y.2 H K:=λH K=>by
    exact Kz (Km h2)
   have J:zl (lR H x.1.wid u) y.1.wid=zl H y.1.wid:=Vs (λd e L he q=>h4 e d he L q.symm) u;refine(l _ _).2 ((h _ J _).2 ⟨w.1,λe v C=>?_⟩);have hk:=w.2 e v C;have j:∀H,zl H x.1.wid=k->∀K,QV S x.1 (fK b y.1.dst e) x.2 H K↔ (pre/\∀d u,out d u->K d (lR H x.1.wid u)):=λH M K=>by
    rw[<-a H M K];exact Kz (Km h1)
   have N:zl (lR H y.1.wid v) x.1.wid=k:=by grind [Vs]
   have:=Yu p r (fK b y.1.dst e) (lR H y.1.wid v) (λz hz=>t z (by grind)) hk k N pre out j d u c;simp_all [qhZ,lS,ab,zl,QV,qb1,qdy]
theorem Su{x:CI×ab}{K:Sg->ab->Prop} :∀(h C:List (CI×ab)) (k:Sg) (H:ab) (a:Act) (w:World),(∀y∈h,dN E.dq P Z2 S y.1)->(∀y∈h,lS y.1 x.1=true)->
 (∀y∈h,∃o,eU P im E.N ops o=some y.1)->(h.Pairwise λy z=>∀t,Gu y.1.wid t->z.2 t=none)->(∀y∈h,∀t,Gu y.1.wid t->x.2 t=none)->St E k H a w->(∀y∈h,Xz y.2 H)->Xz x.2 H->qhZ S (h++x::C) k H K->∀(A:ab),zl H x.1.wid=A->
 ∀(pre:Prop) (out:D->List (Nat×Res)->Prop),(∀H,zl H x.1.wid=A->∀K,QV S x.1 k x.2 H K↔ (pre/\∀d u,out d u->K d (lR H x.1.wid u)))->pre
 | [],C,k,H,a,w,_,_,_,_,_,_,_,_,Y,A,F,pre,out,b=>((b H F _).1 Y).1
 | y::h,C,k,H,a,w,I,J,j,L,M,Z,O,hlx,Y,A,F,pre,out,b=>by
   obtain⟨h1,h2,h3,h4⟩:=QI (J y (by simp));obtain⟨o,ho⟩:=j y (by simp);have Q:y.1.dst=o.dst:=by
    obtain⟨g,c,hxe,_⟩:=iq ho;rw[hxe];rfl
   obtain⟨hb1,hb2⟩:=qHl.1 L;have keep:∀(Hr:ab),Xz Hr H->(∀t,Gu y.1.wid t->Hr t=none)->∀u,Xz Hr (lR H y.1.wid u):=λHr hh hb u i r hi=>by
    by_cases hw:Gu y.1.wid i;grind
    ·simp only[lR];rw[if_neg hw];exact hh i r hi
   obtain⟨qy,oy,l⟩:=PQ S y.1 k y.2 (zl H y.1.wid);have l:∀H',zl H' y.1.wid=zl H y.1.wid->∀K,QV S y.1 k y.2 H' K↔ (qy/\∀d u,oy d u->K d (lR H' y.1.wid u)):=l;have U:=(l H rfl _).1 Y;have hv2:QV S y.1 k y.2 H λd H'=>qhZ S (h++x::C) (fK k y.1.dst d) H' K/\((∀z∈h,Xz z.2 H')/\Xz x.2 H')/\zl H' x.1.wid=A:=(l H rfl _).2 ⟨U.1,λd u W=>⟨U.2 d u W,⟨λz hz=>keep z.2 (O z (by grind)) (hb1 z hz) u,keep x.2 hlx (M y (by simp)) u⟩,by grind [Vs]⟩⟩
   obtain⟨r,H',a',w',⟨hk,q,hr'⟩,s⟩:=qcI (I y (by simp)) ho Z (O y (by simp)) hv2;rw[<-Q]at s;have p:∀H,zl H x.1.wid=A->∀K,QV S x.1 (fK k y.1.dst r) x.2 H K↔ (pre/\∀d u,out d u->K d (lR H x.1.wid u)):=λH hr K=>by
    rw[<-b H hr K];exact Kz (Km h1)
   exact Su h C _ H' a' w' (λz hz=>I z (by grind)) (λz hz=>J z (by grind)) (λz hz=>j z (by grind)) hb2 (λz hz=>M z (by grind)) s q.1 q.2 hk A hr' pre out p
end
def Lm(o:Oper):List Nat:=(o.after.toList.filter λe=>Region.binds .any e).map (·.on)
def Xl:List Oper->List (List Nat)->List (List Nat)
 | [],a=>a
 |o::r,a=>Xl r (a++ [((Lm o) ++ (Lm o).flatMap λj=>(a[j]?).getD []).eraseDups])
def qfu(ops:Array Oper):List (List Nat):=Xl ops.toList []
def qcY(an:List (List Nat))(j i:Nat):Bool:=((an[j]?).getD []).contains i
def qcN(ops:Array Oper)(cis:List CI)(m:Nat):Bool:=
 (List.range ops.size).all (λi=>((ops[i]?).map λo=>(Lm o).all (· < i)).getD true) &&
 (List.range ops.size).all (λj=>decide (j<m)||(List.range j).all λi=>qcY (qfu ops) j i) &&
 (List.range m).all (λj=>(List.range j).all λi=>qcY (qfu ops) j i||(match cis[i]?,cis[j]? with|some x,some y=>lS x y|_,_=>false)) &&
 decide (m<=ops.size)
def zN(listed:Array Bool)(i:Nat):Prop:=listed.getD i false=true
def DC(ops:Array Oper)(listed:Array Bool):Prop:=∀i o,ops[i]? =some o->zN listed i->∀j∈Lm o,zN listed j
def R6{α:Type}[BEq α][LawfulBEq α]{l:List α}{x:α}(h:x∈l.eraseDups):x∈l:=by
 simp_all
theorem qlT{ops:Array Oper}{listed:Array Bool}(c:DC ops listed):∀(r:List Oper) (a:List (List Nat)),(∀(k:Nat),r[k]? =ops[a.length+k]?)->
 (∀(k:Nat) (l:List Nat),a[k]? =some l->(∀o,ops[k]? =some o->∀j∈Lm o,zN listed j)->∀j∈l,zN listed j)->
 ∀(k:Nat) (l:List Nat),(Xl r a)[k]? =some l->(∀o,ops[k]? =some o->∀j∈Lm o,zN listed j)->∀j∈l,zN listed j
 | [],a,_,b=>b
 | o::r,a,p,b=>by
   simp only[Xl];refine qlT c r _ (λk=>?_) (λk l hl q j hj=>?_)
   ·have:=p (k+1);grind
   ·have ho:ops[a.length]? =some o:=by
     have:=p 0;grind
    by_cases hk:k<a.length;grind
    ·rw[qGH (by omega)]at hl;have d:k -a.length=0:=by
      grind
     have h:k=a.length:=by omega
     subst h;rw[d]at hl;simp at hl;subst hl;have s:=q o ho;rcases qGi.1 (R6 hj)with hj|hj;grind;grind [DC]
theorem IT{ops:Array Oper}{listed:Array Bool}(a:DC ops listed){j i:Nat}(h:qcY (qfu ops) j i=true)(b:∀o,ops[j]? =some o->∀k∈Lm o,zN listed k):zN listed i:=by
 unfold qcY at h;cases hl:(qfu ops)[j]? with
 |none=>grind
 | some l=>
   rw[hl]at h;exact qlT a ops.toList [] (λk=>by simp) (λk l h=>by grind) j l hl b i (by grind)
theorem uF{ops:Array Oper}{listed:Array Bool}{i:Nat} :i∈Region.ready .any ops listed↔i<ops.size/\listed.getD i true=false/\∀o,ops[i]? =some o->∀j∈Lm o,zN listed j:=by
 unfold Region.ready;rw[qG2,qHC];constructor
 ·rintro⟨h1,h2⟩;simp only[qF9,qH7]at h2;refine⟨h1,h2.1,λo ho j a=>?_⟩;rw[ho]at h2;simp only[qHJ,qGJ,qIo]at h2;unfold Lm at a;obtain⟨e,he,rfl⟩:=qGd.1 a;rw[qG2]at he;obtain⟨k,hk,c⟩:=List.mem_iff_getElem.1 he.1;have:=h2.2 k (by omega);have b:o.after[k]'(by omega)=e:=by grind
  grind [zN]
 ·rintro⟨h1,h2,h3⟩;have ho:ops[i]? =some ops[i]:=by simp
  refine⟨h1,?_⟩;simp only[h2,Bool.not_false,qHs,ho,qHJ,qGJ,qIo];intro k hk;by_cases hb:Region.binds .any (ops[i].after[k])=true
  ·have:=h3 _ ho (ops[i].after[k]).on (by
    unfold Lm;grind)
   grind [zN]
  grind
theorem Qh{listed:Array Bool}{i k:Nat}(hi:i<listed.size):zN (listed.setIfInBounds i true) k↔k=i\/zN listed k:=by
 simp only[zN,qGL,Array.getElem?_setIfInBounds];grind
def qlj{ops:Array Oper}{listed:Array Bool}(a:DC ops listed)(hs:listed.size=ops.size){i:Nat}(hi:i∈Region.ready .any ops listed):DC ops (listed.setIfInBounds i true):=by
 grind [DC,uF,Qh]
theorem pk{ops:Array Oper}{listed:Array Bool}(hs:listed.size=ops.size){i:Nat}(hi:i<ops.size):listed.getD i true=false↔ ¬zN listed i:=by
 grind [zN]
section
variable {P:Program}{im:List Nat}{E:BU}{S:Nat->Spc}{ops:Array Oper}
def vU{cis:List CI}{N:Nat}(h:lg P im N ops=some cis):cis.length=ops.size/\∀(i:Nat) (o:Oper),ops[i]? =some o->∃x,cis[i]? =some x/\eU P im N ops o=some x:=by
 unfold lg at h;have key:∀(l:List Oper) (cs:List CI),l.mapM (eU P im N ops)=some cs->cs.length=l.length/\∀(i:Nat) (o:Oper),l[i]? =some o->∃x,cs[i]? =some x/\eU P im N ops o=some x:=by
  intro l
  induction l with
  |nil=>simp
  | cons o l a=>
    intro cs h;rw[qGM]at h;simp only[qF5,qF3]at h;grind
 obtain⟨h1,h2⟩:=key _ _ h;simp_all
theorem Oq{Q:Exit->Act->World->Prop}{K:Sg->ab->Prop}{z:List PanicEntry->Prop}(q:∀c a w',a.defers=E.ds->qdG E z c w'->Q (.panic c) a w')(hQ:∀u H a w,St E u H a w->K u H->Q .normal a w)
 (O:∀i o,ops[i]? =some o->∀j∈Lm o,j<i) {m:Nat} (U:∀j,m<=j->j<ops.size->∀i,i<j->qcY (qfu ops) j i=true):
 ∀ (tl:List CI),(∀x∈tl,dN E.dq P z S x)->∀(k:Nat) (listed:Array Bool),m<=k->k<=ops.size->listed.size=ops.size->(∀i,i<ops.size->(zN listed i↔i<k))->DC ops listed->
  ((ops.toList.drop k).mapM (eU P im E.N ops)=some (tl.filter CI.real))->∀(u:Sg) (H:ab) (a:Act) (w:World),St E u H a w->FH S tl u H K->
  wpAny P .any ops Q (ops.size -k) listed a w
 | [],W,k,listed,I,hk,hs,hd,A,hm,u,H,a,w,l,J=>by
   have C:k=ops.size:=by
    cases Y:ops.toList.drop k with
    | nil=>
      simp_all;omega
    | cons o r=>
      grind [Option.bind_eq_some_iff]
   subst C;rw[qHN];refine⟨?_,hQ u H a w l J⟩;rw[List.eq_nil_iff_forall_not_mem];grind [uF,pk]
 | .frz t n::tl,W,k,listed,I,hk,hs,hd,A,hm,u,H,a,w,l,J=>by
   simp only[FH]at J;obtain⟨p,H',b,L⟩:=Tz l J;exact Oq q hQ O U tl (λx hx=>W x (by grind)) k listed I hk hs hd A (by grind [CI.real]) p H' a w b L
 | .op dst g c::tl,W,k,listed,I,hk,hs,hd,A,hm,u,H,a,w,l,J=>by
   have C:k<ops.size:=by
    cases Y:ops.toList.drop k with
    |nil=>grind [CI.real]
    | cons o r=>
      have:=congrArg List.length Y;grind
   have M:ops.toList.drop k=ops[k]::ops.toList.drop (k+1):=by
    grind [List.drop_eq_getElem_cons]
   rw[M,qGM]at hm;simp only[qF5,qF3,qHV,CI.real,if_true]at hm;obtain⟨x,hx,y,hy,h⟩:=hm;cases h;obtain⟨g',c',hxe,hc,hg,F⟩:=iq hx;cases hxe;have hfu:ops.size -k=(ops.size - (k+1)) +1:=by omega
   rw[hfu];have hok:ops[k]? =some ops[k]:=by simp
   have Z:k∈Region.ready .any ops listed:=uF.2 ⟨C,(pk hs C).2 (λh=>by grind),λo ho j hj=>by
    grind⟩
   refine⟨λh=>(by grind),λi hi=>?_⟩;obtain⟨h1,h2,h3⟩:=uF.1 hi;rw[pk hs h1]at h2;have hik:i=k:=by
    grind [Nat.lt_trichotomy,IT]
   subst hik;unfold wpOp;rw[hok];simp only[];have hst0:=l;obtain⟨hdf,hN,tp,hw,hr⟩:=l;simp only[FH]at J;have s:∀(p:Sg) (H':ab) (a':Act) (w':World),St E p H' a' w'->FH S tl p H' K->wpAny P .any ops Q (ops.size - (i+1)) (listed.setIfInBounds i true) a' w':=λp H' a' w' b L=>
    Oq q hQ O U tl (λx hx=>W x (by grind)) (i+1) _ (by omega) (by omega) (by grind) (λj hj=>by grind [Qh]) (qlj A hs hi) hy p H' a' w' b L
   rcases Dh hg hr J with⟨d,hyes⟩|⟨d,hno⟩
   ·rw[if_pos d];exact .inl (LC (W (.op _ g c) (qIi ..)) hc hw hdf hN hr F hyes (λc w'=>q c a w' hdf) (λr H' x w' hk b=>s _ _ _ _ b hk))
   ·rw[if_neg (by simp[d])];exact s _ _ _ _ (hst0.skip _ F) hno
theorem qnF{Q:Exit->Act->World->Prop}{K:Sg->ab->Prop}{z:List PanicEntry->Prop}(hpan:∀c a w',a.defers=E.ds->qdG E z c w'->Q (.panic c) a w')(hQ:∀C H a w,St E C H a w->K C H->Q .normal a w){cis:List CI}(hcis:lg P im E.N ops=some cis)
 (hC0:∀i o,ops[i]? =some o->∀j∈Lm o,j<i) {m:Nat} (hS:∀j x,j<m->cis[j]? =some x->dN E.dq P z S x) (hquiet:∀j i x y,j<i->i<m->cis[j]? =some x->cis[i]? =some y->lS x y=true->dN E.dq P Z2 S x) (hm:m<=ops.size) (hC2:∀j,m<=j->j<ops.size->∀i,i<j->qcY (qfu ops) j i=true)
 (hC1:∀j,j<m->∀i,i<j->qcY (qfu ops) j i=true\/ ∃x y,cis[i]? =some x/\cis[j]? =some y/\lS x y=true) {tl:List CI} (htl:(ops.toList.drop m).mapM (eU P im E.N ops)=some (tl.filter CI.real)) (hStl:∀x∈tl,dN E.dq P z S x) {Hr:Nat->ab}
 (hban:∀i j x t,i<m->j<m->i≠j->cis[i]? =some x->Gu x.wid t->Hr j t=none\/qcY (qfu ops) i j=true) (W:∀i j x t,i<m->j<m->i<j->cis[i]? =some x->Gu x.wid t->Hr j t=none):
 ∀ (n:Nat) (F:List Nat) (listed:Array Bool),F.length=n->F.Pairwise (· < ·)->(∀i∈F,i<m)->listed.size=ops.size->(∀i,i<ops.size->(zN listed i↔i<m/\i∉F))->DC ops listed->
  ∀(C:Sg) (H:ab) (a:Act) (w:World),St E C H a w->(∀i∈F,Xz (Hr i) H)->qhZ S (F.map λi=>((cis[i]?).getD (.frz 0 0),Hr i)) C H (λC H=>FH S tl C H K)->
  wpAny P .any ops Q (F.length+ (ops.size -m)) listed a w:=by
 obtain⟨hclen,Y⟩:=vU hcis;intro n
 induction n with
 | zero=>
   intro F listed hn I M hs hd O C H a w Z hle hv;have:F=[]:=qGk hn;subst this;simp only[qHI,qGS];exact Oq hpan hQ hC0 hC2 tl hStl m listed (qGb _) hm hs (λi hi=>by grind) O htl C H a w Z hv
 | succ n ih=>
   intro F listed hn I M hs hd O C H a w Z hle hv;have hfu:F.length+ (ops.size -m)=(n+ (ops.size -m)) +1:=by omega
   rw[hfu];have hne:Region.ready .any ops listed≠ []:=by
    cases F with
    |nil=>simp at hn
    | cons u F=>
      have hum:=M u (by simp);have:u∈Region.ready .any ops listed:=uF.2 ⟨by omega,(pk hs (by omega)).2 (λh=>((hd u (by omega)).1 h).2 (by simp)),λo ho j l=>by
       have hju:=hC0 u o ho j l;refine(hd j (by omega)).2 ⟨by omega,λhmem=>?_⟩;rcases qGm.1 hmem with rfl|hmem
       ·omega
       ·have:=qHK I hmem;omega⟩
      intro h;rw[h]at this;cases this
   refine⟨λh=>absurd h hne,λi hi=>?_⟩;obtain⟨h1,h2,h3⟩:=uF.1 hi;rw[pk hs h1]at h2;have hiu:i∈F:=by
    by_cases J:i<m
    ·by_cases hmem:i∈F
     ·exact hmem
     ·exact absurd ((hd i h1).2 ⟨J,hmem⟩) h2
    ·exfalso;cases F with
     |nil=>simp at hn
     | cons u F=>
       have hum:=M u (by simp);have:=IT O (hC2 i (by omega) h1 u (by omega)) h3;exact((hd u (by omega)).1 this).2 (by simp)
   obtain⟨s,L,rfl⟩:=qIj hiu;have J:i<m:=M i hiu;have hoi:ops[i]? =some ops[i]:=by simp[h1]
   obtain⟨x,hxi,hx⟩:=Y i _ hoi;have b:∀j∈s,j<i:=λj l=>by
    have:=qG3.1 I;exact this.2.2 j l i (by simp)
   have hap:∀y∈s.map (λi=>((cis[i]?).getD (.frz 0 0),Hr i)),lS y.1 x=true:=by
    intro y hy;obtain⟨j,l,rfl⟩:=qGd.1 hy;have A:=b j l;rcases hC1 i J j A with h|⟨x',y',e1,e2,e3⟩
    ·exfalso;have:=IT O h h3;exact((hd j (by omega)).1 this).2 (by simp[l])
    ·rw[hxi]at e2;cases e2;simp only[e1,qGJ];exact e3
   rw[qHL,qGG,hxi]at hv;simp only[qGJ]at hv;obtain⟨pre,out,q⟩:=PQ S x C (Hr i) (zl H x.wid);have q:∀H',zl H' x.wid=zl H x.wid->∀K,QV S x C (Hr i) H' K↔ (pre/\∀d u,out d u->K d (lR H' x.wid u)):=q;have hgx:∀(j:Nat),j<i->∃y o,cis[j]? =some y/\eU P im E.N ops o=some y:=λj l=>by
    obtain⟨y',p,U⟩:=Y j ops[j] (by simp);exact⟨y',_,p,U⟩
   have hpre:=Su (x:=(x,Hr i)) (im:=im) (ops:=ops) _ _ C H a w (λy hy=>by
    obtain⟨j,l,rfl⟩:=qGd.1 hy;obtain⟨y',o',p,U⟩:=hgx j (b j l);simp only[p,qGJ];have hap1:=hap ((cis[j]?).getD (.frz 0 0),Hr j) (qGd.2 ⟨j,l,rfl⟩);simp only[p,qGJ]at hap1;exact hquiet j i y' x (b j l) J p hxi hap1) hap (λy hy=>by
    obtain⟨j,l,rfl⟩:=qGd.1 hy;obtain⟨y',o',p,U⟩:=hgx j (b j l);simp only[p,qGJ];exact⟨_,U⟩) (by
    rw[List.pairwise_map];refine(qG3.1 I).1.imp_of_mem ?_;intro j k l hk hjk t ht;obtain⟨y',o',p,U⟩:=hgx j (b j l);simp only[p,qGJ]at ht;have:=b k hk;exact W j k y' t (by omega) (by omega) hjk p ht) (λy hy t ht=>by
    obtain⟨j,l,rfl⟩:=qGd.1 hy;have A:=b j l;obtain⟨y',o',p,U⟩:=hgx j A;simp only[p,qGJ]at ht;exact W j i y' t (by omega) (by omega) A p ht) Z (λy hy=>by
    obtain⟨j,l,rfl⟩:=qGd.1 hy;exact hle j (by simp[l])) (hle i (by simp)) hv _ rfl pre out q
   have htake:=Yu (x:=(x,Hr i)) _ _ C H hap hv _ rfl pre out q;obtain⟨g,c,hxe,_,_,_⟩:=iq hx;have hdx:x.dst=(ops[i]).dst:=by rw[hxe];rfl
   have hvx:QV S x C (Hr i) H λd H'=>qhZ S ((s++L).map λi=>((cis[i]?).getD (.frz 0 0),Hr i)) (fK C x.dst d) H' (λC H=>FH S tl C H K)/\∀j∈s++L,Xz (Hr j) H':=(q H rfl _).2 ⟨hpre,λd u hout=>⟨by rw[qHL];exact htake d u hout,λj l k r hk=>by
    have hju:j∈s++i::L:=by
     rcases qGi.1 l with h|h<;>simp[h]
    have hle':=hle j hju;have A:i≠j:=λe=>by
     subst e;have:=qG3.1 I;rcases qGi.1 l with h|h
     ·have:=b i h;omega
     ·have h4:=qHK this.2.1 h;omega
    have hjm:=M j hju;by_cases hw:Gu x.wid k
    ·rcases hban i j x k J hjm A hxi hw with h|h
     ·rw[h]at hk;cases hk
     ·have h5:=IT O h h3;exact absurd hju ((hd j (by omega)).1 h5).2
    ·simp only[lR];rw[if_neg hw];exact hle' k r hk⟩⟩
   unfold wpOp;rw[hoi];simp only[];have hlen:(s++L).length=n:=by simp at hn ⊢;omega
   have hsub:(s++L).Pairwise (· < ·):=I.sublist (by simp);have hnd:i∉s++L:=by
    have:=qG3.1 I;intro h;rcases qGi.1 h with h|h
    ·have:=b i h;omega
    ·have h4:=qHK this.2.1 h;omega
   have hps:=Tc (Q:=Q) (next:=wpAny P .any ops Q (n+ (ops.size -m)) (listed.setIfInBounds i true)) (hS i x J hxi) hx Z (hle i (by simp)) hvx (λc w'=>hpan c a w' Z.1) (λr H' v w' hk hst'=>by
    rw[<-hdx]at hst';have:=ih (s++L) (listed.setIfInBounds i true) hlen hsub (λj l=>M j (by simp at l ⊢;rcases l with h|h<;>simp[h])) (by simpa using hs) (λj l=>by
     rw[Qh (by omega),hd j l];constructor
     ·rintro(rfl|⟨ha,hb⟩)
      ·exact⟨J,hnd⟩
      ·exact⟨ha,λh=>hb (by simp at h ⊢;rcases h with h|h<;>simp[h])⟩
     ·rintro⟨ha,hb⟩;by_cases A:j=i
      ·exact .inl A
      ·exact .inr ⟨ha,λh=>hb (by simp at h ⊢;rcases h with h|h|h;exact .inl h;exact absurd h A;exact .inr h)⟩) (qlj O hs hi) _ H' _ w' hst' hk.2 hk.1
    rw[hlen,hdx]at this;exact this)
   split
   ·rename_i hw;rw[if_pos hw]at hps;exact .inl hps
   ·rename_i hw;rw[if_neg hw]at hps;exact hps
end
end Go.Gv
