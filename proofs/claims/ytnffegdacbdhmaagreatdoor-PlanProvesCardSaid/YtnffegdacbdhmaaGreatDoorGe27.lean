/- T46 -/
import Derived.Shelf.SlIterI.Sorted
import Derived.DataShut
import Derived.Test.YtnffegdacbdhmaaGreatDoorGe26
set_option linter.all false
set_option maxRecDepth 100000
set_option maxHeartbeats 0
open Bool renaming forall_bool → fB', exists_bool → eB'
namespace Go.Gv
section
variable {dq:Prop}
open Cod (enc dec)
open Go.Proofs Go.Shelf Go.RowKit Go.Maps Go.Sort
def qrI(g:Nat):PT:=λd ds H K=>∃id x es,ds=[.own id x]/\H id=some (.mrow x es)/\∀b,K (.clo g [.bptr d b 0]) (ai H d (some (.box b [.own id x])))
def qgv(g:Nat):nC (qrI g):=λd ds H K a hk ⟨id,x,es,h1,h2,h3⟩=>⟨id,x,es,h1,h2,λb=>hk _ _ (h3 b)⟩
def qd9(g:Nat):Spc:= .gen _ (qgv g)
def Zu(g d:Nat)(id:Nat)(x:Value)(r:Option Res)(H:ab)(K:D->ab->Prop):Prop:=match r with
 |some (.mrow a es)=>a=x/\∀b,K (.clo g [.bptr d b 0]) (ai H d (some (.box b [.own id a])))
 | _=>False
@[simp] theorem qyb(g d id:Nat)(x a:Value)(es:List D)(H:ab)(K:D->ab->Prop):Zu g d id x (some (.mrow a es)) H K=(a=x/\∀b,K (.clo g [.bptr d b 0]) (ai H d (some (.box b [.own id a])))):=i' rfl
@[congr] theorem qu5{g d id:Nat}{x:Value}{r r':Option Res}{H:ab}{K:D->ab->Prop}(h:r=r'):Zu g d id x r H K=Zu g d id x r' H K:=by subst h;rfl
@[simp] theorem qu6(g d i:Nat)(x:Value)(H:ab)(K:D->ab->Prop):(qd9 g).pt d [.own i x] H K=Zu g d i x (H i) H K:=by
 refine propext ⟨λh=>?_,λh=>?_⟩
 ·obtain⟨id,a,es,h1,h2,h3⟩:=h;cases h1;rw[h2];exact⟨rfl,h3⟩
 ·unfold Zu at h;split at h
  ·rename_i a es b;obtain⟨rfl,h⟩:=h;exact⟨i,a,es,rfl,b,h⟩
  ·exact h.elim
def qh1(g:Nat):PT:=λd ds H K=>∃(i b j:Nat) (x:Value) (ks:List Int),ds=[.clo g [.bptr i b 0]]/\H i=some (.box b [.own j x])/\H j=some (.mrow x (aW ks))/\ks.Nodup/\ks.length<=1000000/\(∀k∈ks,0<=k/\k<=1000000)/\
 ∀v,K (.own d v) (ai H d (some (.row v bj 1 ((ks.mergeSort (λx y=>decide (x<=y))).map enc))))
def Yf(g:Nat):nC (qh1 g):=λd ds H K c hk ⟨i,b,j,x,ks,h1,h2,h3,h4,h5,h6,a⟩=>⟨i,b,j,x,ks,h1,h2,h3,h4,h5,h6,λv=>hk _ _ (a v)⟩
def US(g:Nat):Spc:= .gen _ (Yf g)
section
variable {P:Program}{ρ:Ren}
theorem qhM{fk:Nat}(L:SlLaysZI.n7 P ρ)(u:ρ.f 7=fk)(A:dc P fk):Tri dq P fk (qd9 (ρ.f 10)).pt:=by
 subst u;intro O tp w vs ds H d K hO l j hlen a C;obtain⟨id,x,es,rfl,hid,E⟩:=C
 match vs,hlen,a with
 | [r],_,a=>
 have F:r=x:=by
  have:=a 0 r _ rfl rfl;cases this;rfl
 subst F;obtain⟨q,s,clock,rfl,h1,h2,h3⟩:=j.ok id _ hid;refine⟨A,((callsIn_wide (n:=6)).1 (AnyZI.keys_in L Fence.wide 6 trivial rfl (some q) w)).mono ?_⟩;rintro e w' ⟨rfl,rfl⟩;have I:StW ⟨O,tp,w,bA H,0, [],dq⟩ tp H w:=⟨hO,λ_ h=>h,λ_ h=> .inl h,⟨l.1,l.2⟩, .refl _ _ _,λ_ h=> .inl h,j⟩
 obtain⟨hm,mv⟩:=qz (t:=d) (ob:= .cells #[.map (some q)] (ρ.t 23)) (r':= .box w.heap.size [.own id (.map (some q))]) I (λb hb=>by cases hb;rfl) (λmv=>⟨#[.map (some q)],ρ.t 23,heap_alloc_new _ _,rfl,λk y c p hc=>by
  match k with
  | 0=>simp at p hc;subst p;subst hc;exact⟨rfl, .own _ _ rfl⟩
  |k+1=>simp at hc⟩)
 refine⟨_,_,_,tp,rfl,E w.heap.size,λ_ h=>h,λ_ h=> .inl h,hm.tpl.1,hm.step,hm.loc,hm.sat,?_⟩;exact .clo _ [.pointer (some ⟨w.heap.size,0,none⟩)] [.bptr d w.heap.size 0] rfl (λk y c p hc=>by
  match k with
  | 0=>simp at p hc;subst p;subst hc;exact .bptr _ _ _
  |k+1=>simp at hc)
def Py:∀{ks:List Int},ks.Nodup->(ks.map (Value.int .i64)).Nodup
 | [],_=>qG7
 | a::l,h=>by
   have h:=qGR.1 h;refine qGR.2 ⟨λhm=>?_,Py h.2⟩;obtain⟨b,hb,e⟩:=qFQ.1 hm;injection e with _ e;subst e;exact h.1 hb
theorem qfW{k:TypeId}(hk:P.underlying k=some (.int .i64)){w:World}{t clock:Nat}{a:Array MapEntry}{ks:List Int}(hb:w.heap[t]? =some (.map a clock))(d:ga a clock)(hl:a.size=ks.length)(hn:ks.Nodup)(hlen:ks.length<=1000000)
 (y:∀k∈ks,0<=k/\k<=1000000) (he:∀(i:Nat) (e:MapEntry) (k:Int),a[i]? =some e->ks[i]? =some k->e.key= .int .i64 k):
 ∃s:DataW Unit,w.ownsMap P k (λ_=>some (.nil, [])) t a.size s/\(intKeys s).Perm ks/\Maps.size s=ks.length:=by
 have b:a.toList.map (·.key)=ks.map (Value.int .i64):=by
  refine qGo λi=>?_
  rw[qFU,qFU,qF4];by_cases hi:i<ks.length
  ·have u:a[i]? =some (a[i]'(by omega)):=qGj (by omega);rw[u,qFH hi];simp only[qHd];rw[he i _ _ u (qFH hi)]
  ·rw[qGN (by omega),qF0 (by omega)];rfl
 have j:∀x∈a.toList,∃n∈ks,x.key= .int .i64 n/\WideElems.rd (H:=Unit) P k (λ_=>some (.nil, [])) x=some (.int .i64 n, .nil):=λx l=>by
  have:x.key∈ks.map (Value.int .i64):=by rw[<-b];exact qFQ.2 ⟨x,l,rfl⟩
  obtain⟨n,q,c⟩:=qFQ.1 this;have A:=y n q;refine⟨n,q,c.symm,?_⟩;have C:(Lit.int .i64 n).wf=true:=by
   exact(Lit.wf_int_iff .i64 n).2 ⟨by have:IntKind.i64.min= -9223372036854775808:=rfl;omega,by have:IntKind.i64.max=9223372036854775807:=rfl;omega⟩
  simp[WideElems.rd,<-c,keyOf,hk,mapKey,C]
 have F:WideElems.Fit (H:=Unit) P k (λ_=>some (.nil, [])) a clock:=⟨by rw[hl];exact qGl hlen (by decide),⟨d.1,d.2,by rw[b];exact Py hn⟩,λx l=>by
  obtain⟨n,_,_,h⟩:=j x l;exact⟨_,h⟩⟩
 have r:=World.ownsMap_of_fit (R:=λ_=>some (.nil, [])) hb F (λ_ _ _ h=>h);refine⟨_,r,?_,?_⟩
 ·show(((a.toList.map (WideElems.rg P k _)).foldr DataW.insert []).map λp=>intOf p.1).Perm ks;refine((WideShapes.sorted_perm _).map _).trans ?_;rw[List.map_map];have:a.toList.map ((λp:Lit×DataW Unit=>intOf p.1) ∘WideElems.rg P k λ_=>some (.nil, []))=ks:=by
   have h2:a.toList.map ((λp:Lit×DataW Unit=>intOf p.1) ∘WideElems.rg P k λ_=>some (.nil, []))=(a.toList.map (·.key)).map λv=>match v with| .int _ n=>n|_=>0:=by
    rw[List.map_map];refine qGK λx l=>?_
    obtain⟨n,_,c,h⟩:=j x l;simp only[Function.comp];rw[WideElems.rg_of h,c];rfl
   rw[h2,b,List.map_map];exact List.map_id'' (λ_=>rfl) ks
  rw[this]
 ·show((a.toList.map (WideElems.rg P k _)).foldr DataW.insert []).length=_;rw[DataW.length_sorted,qGq,qGr,hl]
theorem qbz{fs fk:Nat}{C:Ren}(hdq:¬dq)(L:SlLaysZI.n6 P ρ)(L7:SlLaysZI.n7 P C)(hf:ρ.f 6=fs)(ef:dc P fs)(hty:ρ.t 26=bj)(Y:∀m,AnyZI.SortsIn P ρ Fence.wide m)
 (e9:∀args w,(callFunc (ρ.f 9) args).run P w= .ok (.enter (ρ.f 9) args) w) (e10:∀args w,(callFunc (C.f 10) args).run P w= .ok (.enter (C.f 10) args) w):Tri dq P fs (US (C.f 10)).pt:=by
 subst hf;intro O tp w vs ds H d K hO S u hlen J hA;obtain⟨i,b,j,x,ks,rfl,hi,hj,hn,hl,hr,hK⟩:=hA
 match vs,hlen,J with
 | [v0],_,J=>
 have hv:=J 0 v0 _ rfl rfl;obtain⟨Z,el0,hb1,hb2,hb3⟩:=u.ok i _ hi;obtain⟨mb,ents,clock,rfl,h1,h2,h3⟩:=u.ok j _ hj;have hx0:Z= #[.map (some mb)]:=by
  obtain⟨⟨y,hy⟩⟩:Nonempty {y//Z= #[y]} :=by
   rcases Z with⟨l⟩
   match l,hb2 with
   | [y],_=>exact⟨⟨y,rfl⟩⟩
  subst hy;have:=(hb3 0 y _ rfl rfl).2;cases this;rfl
 subst hx0;have hcell:w.cell? ⟨b,0,none⟩=some (.map (some mb)):=by simp[World.cell?,hb1]
 have hbl:b<w.heap.size:=(qFS.1 hb1).1;have u26:=L7.t26;have hsz:(aW ks).length=ks.length:=by simp[aW]
 obtain⟨D0,hown,N,hms⟩:=qfW (P:=P) (k:=C.t 26) u26 h1 h2 (by rw[h3.1,hsz]) hn hl hr (λi e k he hk=>by
  have hc:(aW ks)[i]? =some (.tup [enc k, .v (.bool true)]):=by simp[aW,hk]
  have:=h3.2 i e _ he hc;have:=this.ent.1;exact this.inv_v)
 have hseq:=AnyZI.keys_gives (ρ:=C) { L7 with } Fence.wide 3 trivial rfl (by omega) b mb _ D0 w hbl hcell hown;have hv0:v0= .func (.func (C.f 10)) #[] #[.pointer (some ⟨b,0,none⟩)]:=by
  cases hv with
  | clo _ ys _ hyl hyc=>
    match ys,hyl with
    | [y],_=>
    have:=hyc 0 y _ rfl rfl;cases this;rfl
 subst hv0;have cS:=AnyZI.sorted_in L Fence.wide 6 trivial trivial trivial trivial rfl (by omega) (Y _) e9 (C.f 10) #[.pointer (some ⟨b,0,none⟩)] trivial e10 _ (Maps.size D0) (by rw[hms];exact qGl hl (by decide)) (by rw[hms];omega) w hseq;refine⟨ef,((callsIn_wide (n:=6)).1 cS).mono ?_⟩;rintro e w' ⟨v,ss,rfl,hS,E,hnil,A⟩;have hss:ss.mergeSort (λx y=>decide (x<=y))=ks.mergeSort (λx y=>decide (x<=y)):=mergeSort_of_perm_i (hS.trans N);have hsl:ss.length=ks.length:=(hS.trans N).length_eq;rw[hss]at E;generalize hso:(ks.mergeSort λx y=>decide (x<=y))=U at E;have W:U.length=ks.length:=by rw[<-hso];simp
 have F:∀b',b'< w.heap.size->w'.heap[b']? =w.heap[b']?:=A.block
 let Hn:=ai H d (some (.row v bj 1 (U.map enc)))
 have M:∀b',(Res.row v bj 1 (U.map (enc (X:=Int)))).blk=some b'->w.heap.size<=b':=λb' p=>by
  rcases E.2 with⟨rfl,_⟩|⟨g,cap,cur,rfl,hg,_⟩
  ·cases p
  ·cases p;exact hg
 have Q:∀b',bA Hn b'->bA H b'\/w.heap.size<=b':=λb' p=>by
  rcases SP p with⟨r,h1,h2⟩|⟨i,r,_,h1,h2⟩
  ·cases h1;exact .inr (M b' h2)
  ·exact .inl ⟨i,r,h1,h2⟩
 have move:∀y c,R tp (aR O tp H w) w y c->R tp (aR O tp Hn w') w' y c:=λy c hr=>hr.mono (λ_ h=>h) (λb' p=>⟨⟨qFX p.1 A.size,p.2.1,p.2.2.1,λho=>by
  rcases Q b' ho with h|h
  ·exact p.2.2.2 h
  ·exact absurd p.1 (by omega)⟩,F b' p.1⟩) (λb' p=> .same (F b' (S.1 b' p)))
 have I:∀i r,Hn i=some r->(i=d/\r= .row v bj 1 (U.map enc))\/(i≠d/\H i=some r):=λi r h=>by
  simp only[Hn,ai]at h;split at h
  ·rename_i e;cases h;exact .inl ⟨e,rfl⟩
  ·rename_i e;exact .inr ⟨e,h⟩
 have hone:v.oneCell'=true:=by
  rcases E.2 with⟨rfl,_⟩|⟨g,cap,cur,rfl,_⟩ <;>rfl
 refine⟨v, .own d v,Hn,tp,rfl,by have:=hK v;rw[hso]at this;exact this,λ_ h=>h,λ_ h=> .inl h,λb' p=>qFX (S.1 b' p) A.size,
  ⟨A.os,A.tape,A.output,A.size,λb' p _ _=>F b' p,λb' p=> .same (F b' (S.1 b' p)),λq=>absurd q hdq⟩,Q,⟨?_,?_,?_⟩, .own _ _ hone⟩
 ·intro i j r s b' h1 h2 h3 h4;rcases I i r h1 with⟨rfl,rfl⟩|⟨n1,k1⟩
  ·rcases I j s h2 with⟨rfl,rfl⟩|⟨n2,k2⟩
   ·rfl
   ·have:=(u.ok j s k2).lt h4;have:=M b' h3;omega
  ·rcases I j s h2 with⟨rfl,rfl⟩|⟨n2,k2⟩
   ·have:=(u.ok i r k1).lt h3;have:=M b' h4;omega
   ·exact u.dis i j r s b' k1 k2 h3 h4
 ·intro i r b' h1 h2;rcases I i r h1 with⟨rfl,rfl⟩|⟨n1,k1⟩
  ·have:=M b' h2;exact⟨λh=>by have:=hO b' h;omega,λh=>by have:=S.1 b' h;omega⟩
  ·exact u.out i r b' k1 h2
 ·intro i r h1;rcases I i r h1 with⟨rfl,rfl⟩|⟨n1,k1⟩
  ·refine⟨U.map encZ,⟨by simp,?_⟩,λd hd=>?_,λk y c hy hc=>?_⟩
   ·have:=E.2;rw[hty]at this;rcases this with⟨h,h0⟩|⟨g,cap,cur,h,_,a1,a2,a3,a4,a5⟩
    ·exact .inl ⟨h,by rw[qGq,W,<-hsl];exact h0⟩
    ·exact .inr ⟨g,cap,cur,by rw[h];simp;omega,qF3 _,a1,by simp;omega,a3,a4,by simpa [W,hsl]using a5⟩
   ·obtain⟨z,_,rfl⟩:=qFQ.1 hd;exact⟨Cod.kn z,Cod.wid z⟩
   ·have hfl:bp (U.map (enc (X:=Int)))=(U.map encZ).map D.v:=by
     unfold bp;rw[List.flatMap_map,List.map_map];generalize U=l
     induction l with
     |nil=>rfl
     |cons a l ih=>rw[qGk,qGb,ih];rfl
    rw[hfl,qFU,hy]at hc;cases hc;obtain⟨z,_,rfl⟩:=qFQ.1 (qFK hy);exact⟨rfl, .v _ rfl (λs h=>by cases h)⟩
  ·exact(u.ok i r k1).conv move (λb' p=>F b' ((u.ok i r k1).lt p))
end
end
section
open Cod (enc dec)
variable {S S0:Nat->Spc}
def qtQ:Cond:=⟨1,⟨#[]⟩,⟨#[]⟩,⟨#[]⟩,⟨#[]⟩,false, []⟩
def Zt(q:Qry)(k:Int):Cond:=(((aq q.pat)[k.toNat]?).map λx=>x.cond).getD qtQ
def YV(c:Corpus)(q:Qry)(i:Int)(x:Span):Bool:=decide (i+x.e∈If c (Zt q x.b)) && decide (fe c.texts (Zw i)=fe c.texts (Zw (i+x.e)))
def Bl(n:Nat):List Int:=(List.range n).map λi:Nat=>(i:Int)
def qfO(k:Nat):ye (k:Int) (Bl k)=Bl (k+1):=by
 have h:(k:Int) ∉Bl k:=λh=>by
  obtain⟨i,hi,e⟩:=qFQ.1 h;have:=qGV.1 hi;omega
 unfold ye;rw[if_neg h];simp[Bl,List.range_succ]
def PE{n:Nat}{i:Int} :i∈Bl n↔0<=i/\i<n:=by
 unfold Bl;rw[qFQ];constructor
 ·rintro⟨j,a,rfl⟩;have:=qGV.1 a;omega
 ·rintro⟨h0,h1⟩;exact⟨i.toNat,qGV.2 (by omega),by omega⟩
def DF(n:Nat):(Bl n).Pairwise (· < ·):=by
 unfold Bl;rw[qHF];exact List.pairwise_lt_range.imp (λh=>by omega)
def Jr{b:Type}[DecidableEq b]:∀{l:List b} {i:Nat} {z:b},l.Nodup->l[i]? =some z->l.eraseIdx i=l.filter λy=>decide (y≠z)
 | [],_,_,_,h=>by simp at h
 | a::l,0,z,hn,h=>by
   simp at h;subst h;have hn:=qGR.1 hn;simp only[List.eraseIdx_cons_zero];rw[List.filter_cons_of_neg (by simp)];exact(qHi.2 λy c=>by simp;rintro rfl;exact hn.1 c).symm
 | a::l,i+1,z,hn,h=>by
   have hn:=qGR.1 hn;have hz:a≠z:=λe=>hn.1 (e ▸qFK (by simpa using h))
   rw[List.eraseIdx_cons_succ,List.filter_cons_of_pos (by simpa using hz),Jr hn.2 (by simpa using h)]
def qgb{l:List Int}(hn:l.Nodup){i j:Nat}(hi:i<l.length)(a:j<l.length)(h:l[i]=l[j]):i=j:=by
 rcases qH0 i j with h1|h1|h1
 ·exact absurd h (qGJ.1 hn i j hi a h1)
 ·exact h1
 ·exact absurd h.symm (qGJ.1 hn j i a hi h1)
def Ja:∀{a:List (Nat×Int)},(a.map (·.1)).Nodup->a.Nodup
 | [],_=>qG7
 | z::a,h=>by
   have h:=qGR.1 h;exact qGR.2 ⟨λhz=>h.1 (qFQ.2 ⟨z,hz,rfl⟩),Ja h.2⟩
def qbL(l:List Int)(i:Nat):(aW l).eraseIdx i=aW (l.eraseIdx i):=by
 unfold aW
 induction l generalizing i with
 |nil=>rfl
 | cons a l b=>cases i with
   |zero=>rfl
   |succ i=>simp only[qGb,List.eraseIdx_cons_succ,b]
theorem qoF{l:List Int}{st:List Nat}{k:Int}{i:Nat}{K:List D->List Nat->Prop}(hn:l.Nodup)(hk:l[i]? =some k)(h:K (aW (l.eraseIdx i)) (st.eraseIdx i)):TA false [.int .i64] (.v (.int .i64 k)) (aW l) st K:=by
 have a:=Jf;refine⟨Oy a l,a.fit k,λj r v' c m=>?_,λd=>?_⟩
 ·have b:j<l.length:=by
   have:=(qFG.1 c).1;simpa [aW]using this
  have e:(aW l)[j]? =some (.tup [enc l[j], .v (.bool true)]):=by simp[aW,b]
  rw[e]at c;simp only[qFV,D.tup.injEq,qGd,and_true]at c;obtain⟨rfl,rfl⟩:=c;have p:k=l[j]:=by
   have:=G0 (a.pur k) (a.pur l[j]) m;exact aP this
  obtain⟨hi,q⟩:=qFG.1 hk;have:i=j:=qgb hn hi b (q.trans p);subst this;rw[qbL];exact h
 ·exact absurd (AF.2 ⟨qFK hk,rfl⟩) (d (a.pur k) _)
def Ev(P:Int->Bool)(a:List (Nat×Int))(seen:List Nat):List (Nat×Int):=a.filter λz=>decide (z.1∉seen)||P z.2
def SX{c:List (Nat×Int)}(h:(c.map (·.1)).Nodup){a b:Nat×Int}(ha:a∈c)(hb:b∈c)(e:a.1=b.1):a=b:=by
 induction c with
 |nil=>cases ha
 | cons z c k=>
   have h:=qGR.1 h;rcases qFP.1 ha with d|ha<;>rcases qFP.1 hb with j|hb
   ·rw[d,j]
   ·exact absurd (qFQ.2 ⟨b,hb,by rw[<-e,d]⟩) h.1
   ·exact absurd (qFQ.2 ⟨a,ha,by rw[e,j]⟩) h.1
   ·exact k h.2 ha hb
def qgV{P:Int->Bool}{a:List (Nat×Int)}{seen:List Nat}{s:Nat}{k:Int}(hn:(a.map (·.1)).Nodup)(hm:(s,k) ∈a)(hk:P k=true):Ev P a (seen++ [s])=Ev P a seen:=by
 refine List.filter_congr λz hz=>?_
 by_cases e:z.1=s
 ·have:=SX hn hz hm e;subst this;simp[hk]
 ·simp[e]
def qk7{P:Int->Bool}{a:List (Nat×Int)}{seen:List Nat}{s i:Nat}{k:Int}(hn:(a.map (·.1)).Nodup)(hs:s∉seen)(hk:P k=false)(hi:(Ev P a seen)[i]? =some (s,k)):Ev P a (seen++ [s])=(Ev P a seen).eraseIdx i:=by
 have b:a.Nodup:=Ja hn;have hm:(s,k) ∈a:=(qGF.1 (qFK hi)).1;have h2:=Jr (b.filter _) hi;rw[show(Ev P a seen).eraseIdx i=_ from h2];unfold Ev;rw[List.filter_filter];refine List.filter_congr λz hz=>?_
 by_cases e:z.1=s
 ·have:=SX hn hz hm e;subst this;simp[hk]
 ·have:z≠ (s,k):=λh=>e (by rw[h])
  simp[e,this]
def qk6{P:Int->Bool}{a:List (Nat×Int)}{seen:List Nat}(h:∀s∈ (Ev P a seen).map (·.1),s∈seen):Ev P a seen=a.filter λz=>P z.2:=by
 refine List.filter_congr λz hz=>?_
 by_cases e:z.1∈seen
 ·simp[e]
 ·exact absurd (h z.1 (qFQ.2 ⟨z,qGF.2 ⟨hz,by simp[e]⟩,rfl⟩)) e
def qnW{a:List (Nat×Int)}{seen:List Nat}{s:Nat}{k:Int}(hm:(s,k) ∈a)(hs:s∉seen):(a.filter λz=>!decide (z.1∈seen++ [s])).length<(a.filter λz=>!decide (z.1∈seen)).length:=by
 have e:(a.filter λz=>!decide (z.1∈seen++ [s]))=(a.filter λz=>!decide (z.1∈seen)).filter λz=>decide (z.1≠s):=by
  rw[List.filter_filter];refine List.filter_congr λz _=>?_
  by_cases h:z.1∈seen<;>by_cases h2:z.1=s<;>simp[h,h2]
 rw[e];have b:(s,k) ∈a.filter λz=>!decide (z.1∈seen):=qGF.2 ⟨hm,by simp[hs]⟩
 exact List.length_filter_lt_length_iff_exists.2 ⟨_,b,by simp⟩
def G6{b c:Type}(f:b->c):∀(l:List b) (i:Nat),(l.eraseIdx i).map f=(l.map f).eraseIdx i
 | [],_=>rfl
 |a::l,0=>rfl
 |a::l,i+1=>by simp only[List.eraseIdx_cons_succ,qGb,G6 f l i]
def qmy{st:List Nat}{ks:List Int}(h:st.length=ks.length):(st.zip ks).map (·.2)=ks:=by
 rw[show(λx:Nat×Int=>x.2)=Prod.snd from rfl,List.map_snd_zip (by omega)]
def qmz{st:List Nat}{ks:List Int}(h:st.length=ks.length):(st.zip ks).map (·.1)=st:=by
 rw[show(λx:Nat×Int=>x.1)=Prod.fst from rfl,List.map_fst_zip (by omega)]
def qlx(c:Corpus)(q:Qry)(s:List Span):List Int:=(Bl c.toks.length).filter λi=>s.all (YV c q i)
structure yI (V:List Attr->Qry->Prop) (c:Corpus) (q:Qry):Prop where
 v:V c.attrs q
 pat:fy aB q.pat=true
 size:fM q.pat<=256
 fx:oc q.pat
 pl:qhj q.pat []
 few:c.toks.length<=100000
 sel:∀x∈aq q.pat,JK (c,x.cond)
def qeY(V:List Attr->Qry->Prop)(z:Corpus×Qry×List Span):Prop:=yI V z.1 z.2.1/\z.2.2.length<=100000
def ql1(z:Corpus×Qry×List Span)(y:List Int×Int):Prop:=∃F,SrcsOf z.2.1.pat F/\(y=(qlx z.1 z.2.1 z.2.2,0)/\qc2 F z.2.2\/y=([],18)/\ ¬qc2 F z.2.2)
abbrev UX(V:List Attr->Qry->Prop):Spc:=aG (a3 Corpus Qry (List Span)) (qeY V) (kZ (Y:=List Int) (Z:=Int)) ql1
def qbM(c:Corpus)(x:Cond):(If c x).Pairwise (· < ·):=by
 unfold If Ry;rw[qHF];exact(List.pairwise_lt_range.filter _).imp (λh=>by omega)
def qj5{c:Corpus}{q:Qry}{s:List Span}{k:Nat}{x:Span}(a:s[k]? =some x){ks:List Int}(h:ks=(Bl c.toks.length).filter λi=>(s.take k).all (YV c q i)):ks.filter (λi=>YV c q i x)=(Bl c.toks.length).filter λi=>(s.take (k+1)).all (YV c q i):=by
 rw[h,List.filter_filter,av a];refine List.filter_congr λi _=>?_
 simp[List.all_append,Bool.and_comm]
theorem Rj{V:List Attr->Qry->Prop}(h1:S eB=EV V)(h2:S uM=Cv)(h3:S qW=wo)(h4:S js=qiK)
 (h5:S gj=qiS) (h6:S jR=Cx) (h7:S sR=qd9 jr) (h8:S vx=US jr):
 ak xN wG S (a3 Corpus Qry (List Span)) (qeY V) (kZ (Y:=List Int) (Z:=Int)) ql1:=by
 rintro⟨c,q,s⟩ ⟨p,hs⟩;have p:yI V c q:=p;have hs:s.length<=100000:=hs;have hV:V c.attrs q:=p.v;have Q:oc q.pat:=p.fx;have hfew:=p.few;have htl:(c.toks.length:Int)<=9223372036854775807:=by omega
 have hsl:(s.length:Int)<=9223372036854775807:=by omega
 simp[xN,wG,h1,h2,hV,Q,hs,htl,-fB',-eB'];rintro y ⟨F,u,hy⟩;have u:SrcsOf q.pat F:=by
  have u:jF q.pat F:=u;unfold jF at u;rwa [if_pos ⟨p.pat,p.size⟩]at u
 refine⟨λC=>?_,λhe v=>?_⟩
 ·rcases hy with⟨rfl,_⟩|⟨rfl,hno⟩
  ·exact absurd rfl C
  ·exact⟨F,u, .inr ⟨rfl,hno⟩⟩
 have U:qc2 F s:=by
  rcases hy with⟨_,h⟩|⟨rfl,_⟩
  ·exact h
  ·cases he
 clear hy he;refine ah (X:=List Int) [2,3,4,10] [] c.toks.length (λk ks=>ks=Bl k) (λ_=>[]) (λks=>[(33, .mrow v (aW ks))]) [] (by simp[Bl]) ?_ ?_ (hh:=by simp;exact .inl rfl)
 ·rintro k ks hk rfl;simp[-fB',-eB'];exact Uy (X:=Int) Jf rfl (.inl (by rw[qfO]))
 rintro ks rfl;simp[h3,hsl,p.pat,p.pl,-fB',-eB'];refine ah (X:=List Int) [3,10,12,46] [] s.length (λk ks=>ks=(Bl c.toks.length).filter λi=>(s.take k).all (YV c q i)) (λ_=>[]) (λks=>[(33, .mrow v (aW ks))]) (Bl c.toks.length) (by simp;exact(qHi.2 λ_ _=>rfl).symm) ?_ ?_
 ·rintro k ks hk d;obtain⟨x,hx⟩:=eK hk;obtain⟨_,hgx⟩:=qFG.1 hx;have hxF:SrcE q.pat 0 0 x:=(u.2 x).1 (U k x hx).1;obtain⟨r1,r2,r3,r4⟩:=UR q.pat p.pat 0 0 x hxF;have r5:dm q.pat<=1000000:=Q.1;obtain⟨a,ha⟩:=eK (show x.b.toNat<(aq q.pat).length by omega);have hq:(bF q.pat)[x.b.toNat]? =some (nk a):=by unfold bF;rw[qFU,ha];rfl
  obtain⟨hql,W⟩:=qFG.1 hq;have w:JK (c,(nk a).cond):=p.sel a (qFK ha);have hlc:Zt q x.b=(nk a).cond:=by unfold Zt;rw[ha];rfl
  have hb2:x.b<(bF q.pat).length:=by omega
  have hb1:0<=x.b:=by omega
  generalize hcl:nk a=a' at hq W w hlc;simp[hk,hx,hgx,hq,W,hb1,hb2,h4,w,-fB',-eB'];intro b b1 st clock E;obtain⟨hb1',hbn,hbc⟩:=E;have hbl:st.length=ks.length:=by rw[hb1'];simp[aW]
  have I:=qmz hbl;have r:=qmy hbl;generalize hzs:st.zip ks=j at I r;have hzn:(j.map (·.1)).Nodup:=by rw[I];exact hbn
  have J:(j.map (·.2)).Nodup:=by
   rw[r,d];exact((DF _).imp (λh=>by omega)).filter _
  have hc0:Ev (λi=>YV c q i x) j []=j:=qHi.2 λz _=>by simp
  refine au (X:=List Nat) [3,10,12,14,15,46,47,48,67] [14] (λ_=>True) (λ_=>[]) (λseen=>[(33, .raw (.mrs v (aW ((Ev (λi=>YV c q i x) j seen).map (·.2))) ((Ev (λi=>YV c q i x) j seen).map (·.1)) clock)),(67, .raw (.mit b1 33 v clock seen))]) (λseen=>(j.filter λz=>decide (z.1∉seen)).length) [] trivial ?_ (hh:=by simp[hc0,I,r]);rintro seen -;simp[-fB',-eB'];have hsrt:(If c a'.cond).Pairwise (· < ·)/\(If c a'.cond).length<=1000000:=⟨qbM c a'.cond,qGl (Ym _ _ _) (by omega)⟩
  refine⟨λhall=> .inl ?_,λL k1 hm1 hns=>⟨⟨k1,hm1⟩,λi e t hi he=>?_⟩⟩
  ·congr 1;rw[qk6 (λs hs=>by obtain⟨z,hz,rfl⟩:=qFQ.1 hs;exact hall z.1 z.2 hz)];rw[<-qj5 hx d,<-r,List.filter_map];rfl
  have M:(L,t) ∈j:=(qGF.1 (qFK hi)).1;have hmk:t∈Bl c.toks.length:=by
   have:t∈ks:=by rw[<-r];exact qFQ.2 ⟨_,M,rfl⟩
   rw[d]at this;exact(qGF.1 this).1
  obtain⟨k0,k9⟩:=PE.1 hmk;have he2:e= .tup [enc t, .v (.bool true)]:=by
   have:(aW ((Ev (λi=>YV c q i x) j seen).map (·.2)))[i]? =some (.tup [enc t, .v (.bool true)]):=by simp[aW,hi]
   rw[this]at he;exact(qFT he).symm
  subst he2;have l:(j.filter λz=>!decide (z.1∈seen++ [L])).length<(j.filter λz=>!decide (z.1∈seen)).length:=qnW M hns;have N:YV c q t x=(decide (t+x.e∈If c a'.cond) && decide (fe c.texts (Zw t)=fe c.texts (Zw (t+x.e)))):=by unfold YV;rw[hlc]
  have A:YV c q t x=false->∀K:List D->List Nat->Prop,K (aW ((Ev (λi=>YV c q i x) j (seen++ [L])).map (·.2))) ((Ev (λi=>YV c q i x) j (seen++ [L])).map (·.1))->
   TA false [KK.int IntKind.i64] (D.v (Value.int IntKind.i64 t)) (aW ((Ev (λi=>YV c q i x) j seen).map (·.2))) ((Ev (λi=>YV c q i x) j seen).map (·.1)) K:=λhp K hK=>by
   refine qoF (i:=i) ?_ (by rw[qFU,hi];rfl) ?_
   ·exact J.sublist (List.Sublist.map _ qIa)
   ·rw[qk7 hzn hns hp hi]at hK;rw[G6,G6]at hK;exact hK
  simp[h5,h6,hsrt,-fB',-eB'];refine⟨⟨by omega,by omega⟩,λO=>⟨⟨by omega,by omega⟩,λC=>?_,λheq=>?_⟩,λO=>?_⟩
  ·exact A (by rw[N];simp[C]) _ ⟨seen++ [L],⟨.inl ⟨rfl,rfl⟩, .inl rfl⟩,l⟩
  ·refine⟨seen++ [L],⟨.inl ?_, .inl rfl⟩,l⟩;rw[qgV hzn M (by rw[N];simp[O,heq])];exact⟨rfl,rfl⟩
  ·exact A (by rw[N];simp[O]) _ ⟨seen++ [L],⟨.inl ⟨rfl,rfl⟩, .inl rfl⟩,l⟩
 rintro ks d;rw[qFY]at d;have hkb:ks=qlx c q s:=d;simp[h7,-fB',-eB'];intro b;rw[h8];have J:ks.Nodup:=by
  rw[d];exact((DF _).imp (λh=>by omega)).filter _
 have hkr:∀k∈ks,0<=k/\k<c.toks.length:=λk hk=>by
  rw[d]at hk;exact PE.1 (qGF.1 hk).1
 have hkl:ks.length<=c.toks.length:=by
  rw[d];exact qGl (List.length_filter_le _ _) (by simp[Bl])
 have hms:ks.mergeSort (λx y=>decide (x<=y))=ks:=by
  refine List.mergeSort_of_pairwise ?_;rw[d];exact((DF _).filter _).imp λh=>by simp;omega
 refine⟨99,b,33,v,ks,rfl,by simp[ai],by simp[ai],J,by omega,λk hk=>⟨(hkr k hk).1,by have:=(hkr k hk).2;omega⟩,λv'=>?_⟩;rw[hms];refine⟨ks,fA bj (by simp[ai]),F,u, .inl ⟨by rw[hkb],U⟩⟩
end
section
open Go.Proofs
def ve:CC:=gq Tryz.f30 [1] { bx:=[7] } _
def uA:List aj:=[.tmp 2]
def MS:FO qW [1] ve uA 8:=fo
open Cod (enc dec)
variable {S S0:Nat->Spc}
def Ms(h1:S gZ=cB)(h2:S dK=s_leavesQ):ak ve uA S (a1 Pat) (λx=>qhj x []) (enc (X:=List Pat)) λx y=>y=if fy aB x then bF x else[]:=by
 rintro p hp;have hp:qhj p []:=hp;simp[ve,uA,h1,h2,hp,-fB',-eB'];clear h1 h2;exact⟨λh=>aL [] (by simp) (by rw[h];rfl),λh=> .inl λv=>aL (bF p) (fA aC (by simp)) (by rw[h];rfl)⟩
abbrev Yw:Spc:=aG (a2 Corpus Cond) JK (kZ (Y:=Int) (Z:=Int)) λz y=>y=(((If z.1 z.2).length:Int),0)
def J6(h1:S js=qiK):ak rM qs S (a2 Corpus Cond) JK (kZ (Y:=Int) (Z:=Int)) λz y=>y=(((If z.1 z.2).length:Int),0):=by
 rintro⟨c,x⟩ a;simp[rM,qs,h1,a,-fB',-eB']
def pJ(c:Corpus)(q:Qry):List Int:=(aq q.pat).map λx=>((If c x.cond).length:Int)
abbrev SC(V:List Attr->Qry->Prop):Spc:=aG (a2 Corpus Qry) (λz=>yI V z.1 z.2) (kZ (Y:=List Int) (Z:=Int)) λz y=>y=(pJ z.1 z.2,0)
theorem HD{V:List Attr->Qry->Prop}(h1:S eB=EV V)(h2:S qW=wo)(h3:S sU=Yw):ak pj ox S (a2 Corpus Qry) (λz=>yI V z.1 z.2) (kZ (Y:=List Int) (Z:=Int)) λz y=>y=(pJ z.1 z.2,0):=by
 rintro⟨c,q⟩ d;have d:yI V c q:=d;have r:V c.attrs q:=d.v;have hlen:(bF q.pat).length=(aq q.pat).length:=by unfold bF;simp
 have s:(aq q.pat).length<=100000000:=by have:=d.pl.1;simpa using this
 simp[pj,ox,h1,h2,r,d.pat,d.pl,-fB',-eB'];intro t;refine ah (X:=Value×List Int) [2,21] [] (bF q.pat).length (λk z=>z.2=(pJ c q).take k) (λz=>[(7, .own 40 z.1)]) (λz=>[(40, .row z.1 bj 1 (z.2.map enc))]) (.slice none 0 0, []) (by simp) ?_ ?_ (hh:=by simp[isNilRow])
 ·rintro k ⟨v,z⟩ hk hz;have hz:z=(pJ c q).take k:=hz;obtain⟨a,l⟩:=eK (show k<(aq q.pat).length by omega);have p:(bF q.pat)[k]? =some (nk a):=by unfold bF;rw[qFU,l];rfl
  obtain⟨u,h⟩:=qFG.1 p;have b:JK (c,(nk a).cond):=d.sel a (qFK l);have j:(pJ c q)[k]? =some (((If c (nk a).cond).length:Int)):=by unfold pJ;rw[qFU,l];rfl
  have w:z.length=k:=by rw[hz,qGc];unfold pJ;rw[qGq];omega
  generalize x:nk a=A at p h b j;simp[hk,p,h,h3,b,-fB',-eB'];refine⟨by omega,by omega,λv'=> .inl ?_⟩;rw[hz,<-List.map_take,av j];simp
 ·rintro⟨v,z⟩ hz;have hz:z=(pJ c q).take (bF q.pat).length:=hz;have:z=pJ c q:=by rw[hz,qGD];unfold pJ;rw[qGq];omega
  subst this;simp[-fB',-eB'];exact fA bj (by simp[ai])
def yE(n:List Int):List Span->List Span->List Span
 |out, []=>out
 | out,s::l=>yE n (match out with
   | []=>[s]
   |o::_=>if(n[s.b.toNat]?).getD 0<(n[o.b.toNat]?).getD 0 then[s]else out) l
def QC(n:List Int):∀(l out:List Span) (s:Span),yE n out (l++ [s])=yE n (yE n out l) [s]
 | [],out,s=>rfl
 | a::l,out,s=>by
   show yE n _ (l++ [s])=yE n (yE n _ l) [s];exact QC n l _ s
def qcW(z:Corpus×Qry)(y:List Span×Int):Prop:=∃F,SrcsOf z.2.pat F/\y=(yE (pJ z.1 z.2) [] F,0)
abbrev qds(V:List Attr->Qry->Prop):Spc:=aG (a2 Corpus Qry) (λz=>yI V z.1 z.2) (kZ (Y:=List Span) (Z:=Int)) qcW
theorem Xx{V:List Attr->Qry->Prop}(h1:S qZ=SC V)(h2:S mE=se):ak Cj Bh S (a2 Corpus Qry) (λz=>yI V z.1 z.2) (kZ (Y:=List Span) (Z:=Int)) qcW:=by
 rintro⟨c,q⟩ d;have d:yI V c q:=d;have y:oc q.pat:=d.fx;have Q:=d;simp[Cj,Bh,h1,h2,d,y,-fB',-eB'];intro F j I;have j:SrcsOf q.pat F:=by
  have j:jF q.pat F:=j;unfold jF at j;rwa [if_pos ⟨d.pat,d.size⟩]at j
 have J:(pJ c q).length=(aq q.pat).length:=by unfold pJ;simp
 have p:∀s∈F,0<=s.b/\s.b<(pJ c q).length:=λs hs=>by
  obtain⟨U,W,r3,r4⟩:=UR q.pat d.pat 0 0 s ((j.2 s).1 hs);omega
 refine ah (X:=List Span) [6,22] [] F.length (λk z=>z=yE (pJ c q) [] (F.take k)/\z.length<=1/\∀s∈z,s∈F) (λz=>[(8, .list 2 (z.map enc))]) (λ_=>[]) [] ⟨rfl,by simp,by simp⟩ ?_ ?_
 ·rintro k z hk ⟨hz,A,r⟩;obtain⟨x,l⟩:=eK hk;obtain⟨_,t⟩:=qFG.1 l;obtain⟨K,L⟩:=p x (qFK l);obtain⟨nx,u⟩:=eK (show x.b.toNat<(pJ c q).length by omega);obtain⟨_,C⟩:=qFG.1 u;have a:yE (pJ c q) [] (F.take (k+1))=yE (pJ c q) z [x]:=by rw[av l,QC,<-hz]
  clear hz;cases z with
  | nil=>
    simp[hk,l,t,a,yE,-fB',-eB'];exact⟨[x],⟨rfl,by simp,λs hs=>by simp at hs;subst hs;exact qFK l⟩,by simp⟩
  | cons o M=>
    have:M=[]:=by simpa using A
    subst this;obtain⟨N,O⟩:=p o (r o (by simp));obtain⟨no,w⟩:=eK (show o.b.toNat<(pJ c q).length by omega);obtain⟨_,E⟩:=qFG.1 w;simp[hk,l,t,u,C,w,E,K,L,N,O,a,yE,-fB',-eB'];have mx:∀s∈ [x],s∈F:=λs hs=>by simp at hs;subst hs;exact qFK l
    exact⟨λh=>⟨[x],⟨by rw[if_pos h],by simp,mx⟩,by simp⟩,λh=>⟨[o],⟨by rw[if_neg (by omega)],by simp,r⟩,by simp⟩⟩
 ·rintro z ⟨hz,_,_⟩;rw[qFY]at hz;simp[-fB',-eB'];exact⟨z, .same _,F,j,by rw[hz]⟩
def qaO(p:Pat)(y:List Span):Prop:=jF p y/\y.length<=jS p
abbrev Ik:Spc:=aG (a1 Pat) oc (enc (X:=List Span)) qaO
def Ub(h1:S dT=cB)(h2:S BP=Gn)(h3:S iT=Ij):ak B2 A2 S (a1 Pat) oc (enc (X:=List Span)) qaO:=by
 rintro p ⟨b,a⟩;simp[B2,A2,h1,h2,h3,-fB'];clear h1 h2 h3;refine⟨λh=>?_,λh=>aL [] (by simp) ⟨by unfold jF;rw[if_neg (by rw[h];simp)],qF3 _⟩⟩;rw[if_pos h];refine⟨λh2=>aL [] (by simp) ⟨by unfold jF;rw[if_neg (by omega)],qF3 _⟩,λh2=>⟨⟨cg p,⟨qFM _,h⟩,qGI _,by show(0:Int) +200000* (dm p:Int)<=_;omega,qGI _,by show(0:Int) + (dm p:Int)<=_;omega,SS.nil,by show([]:List Span).length+_<=_;simpa using a⟩,?_⟩⟩;rintro y ⟨c1,c2,c3⟩;refine aL y (by simp) ⟨?_,by simpa using c3⟩;unfold jF;rw[if_pos ⟨h,h2⟩];exact⟨c1,λs=>by rw[c2 s];simp⟩
def qme(x:List Int×Qry):Prop:=oc x.2.pat/\jS x.2.pat<=1000
abbrev YF:Spc:=aG (aT (a1 Qry)) qme (enc (X:=List Span)) λ_ y=>y.length<=2000
theorem qht(h1:S Ea=Ik)(h2:S bU=s_m_Next):ak vo uI S (aT (a1 Qry)) qme (enc (X:=List Span)) λ_ y=>y.length<=2000:=by
 rintro⟨L,q⟩ ⟨c,d⟩;have c:oc q.pat:=c;have d:jS q.pat<=1000:=d;simp[vo,uI,h1,c,-fB',-eB'];rintro F ⟨r,l⟩ p;refine ah (X:=Value×List Span) [0,10] [] F.length (λk z=>z.2.length<=k) (λz=>[(5, .own 22 z.1)]) (λz=>[(22, .row z.1 aK 2 (z.2.map enc))]) (.slice none 0 0, []) (by simp) ?_ ?_ (hh:=by simp[isNilRow])
 ·rintro k ⟨v,z⟩ hk hz;have hz:z.length<=k:=hz;obtain⟨x,j⟩:=eK hk;obtain⟨_,h⟩:=qFG.1 j;simp[hk,j,h,h2,-fB',-eB'];refineλy _ _=>⟨λ_=>⟨by omega,by omega,λv'=>⟨v',z++ [x],by simp;omega,rfl, .inl ⟨rfl,by simp⟩⟩⟩,λ_=>⟨v,z,by omega,rfl, .inl ⟨rfl,rfl⟩⟩⟩
 ·rintro⟨v,z⟩ hz;have hz:z.length<=F.length:=hz;simp[h2,-fB',-eB'];refineλy _ _=>⟨λ_ a _ _ b _ _=>⟨by omega,by omega,λv'=>aL (z++ [⟨a,b⟩]) (fA aK (by simp[ai])) (by simp;omega)⟩,λ_=>aL z (fA aK (by simp[ai])) (by omega)⟩
end
section
open Cod (enc dec)
open Go.Proofs Go.Sort Go.Shelf Go.Lib Go.RowKit
variable {dq:Prop}
section
variable {P:Program}{ρ:Ren}{X:Type}[Cod X][Inhabited X]
def qwp(g:Nat)(x:D×Unit)(l:List X):Prop:=x.1= .clo g []/\l.length<=100000
def qlX(cf:X->X->Int)(_:D×Unit)(l r:List X):Prop:=r=l.mergeSort λx y=>!(ltOf cf) y x
theorem qlg(hTb:lg=[]){g:Nat}{cf:X->X->Int}(ev:X->List Value)(q:∀x,enc x=D.agg ((ev x).map D.v))(a:∀x,∀v∈ev x,v.oneCell'=true/\∀s,v= .string s->s.size<=maxLen)
 (C:Tri True P g (aG (a2 X X) (λ_=>True) (enc (X:=Int)) λx y=>y=cf x.1 x.2).pt) (blk size k:Nat) (w:World):CmpLays P g #[] ev k cf blk 0 size w:=by
 intro m os E _ x y;generalize sortWorldK ev k w blk 0 m E os=W;have A:∀z,R (λ_=>False) (aR (λb=>b<W.heap.size) (λ_=>False) bS W) W (.agg (ev z).toArray) (enc z):=λz=>by
  rw[q z];refine .agg (ev z) _ (by simp) (λv t=>(a z v t).1) λj v c h1 h2=>?_
  rw[qFU]at h2;rw[h1]at h2;cases h2;exact .v v (a z v (qFK h1)).1 (a z v (qFK h1)).2
 obtain⟨_,hc⟩:=C (λb=>b<W.heap.size) (λ_=>False) W [.agg (ev x).toArray, .agg (ev y).toArray] [enc x,enc y] bS 0 (λr H'=>r=enc (cf x y)/\H'=bS) (λb h=>h) ⟨λb h=>h.elim,λp hp=>by rw[hTb]at hp;cases hp⟩
  ⟨λi j r s b h=>by simp[bS]at h,λi r b h=>by simp[bS]at h,λi r h=>by simp[bS]at h⟩ rfl
  (λj v c h1 h2=>by
    rcases j with _|_|j
    ·simp at h1 h2;subst h1;subst h2;exact A x
    ·simp at h1 h2;subst h1;subst h2;exact A y
    ·simp at h1)
  (by rw[mO];simp)
 refine hc.mono ?_;rintro e w' ⟨v,r,H',l,rfl,⟨rfl,rfl⟩,_,_,_,hs,_,_,t⟩;have u:v= .int .i64 (cf x y):=by
  have:R l (aR (λb=>b<W.heap.size) l bS w') w' v (.v (.int .i64 (cf x y))):=t;exact this.inv_v
 subst u;refine⟨rfl,w'.drawn -W.drawn,w'.heap.extract W.heap.size w'.heap.size,?_⟩;have d:w'.heap=W.heap++w'.heap.extract W.heap.size w'.heap.size:=by
  apply Array.ext_getElem?;intro b;by_cases hb:b<W.heap.size
  ·rw[qGA hb];exact hs.same b hb (λ⟨i,r,h,_⟩=>by simp[bS]at h) (λh=>h)
  ·rw[Array.getElem?_append_right (by omega),qHI];have F:W.heap.size<=w'.heap.size:=hs.size;by_cases I:b<w'.heap.size
   ·rw[if_pos (by omega)];congr 1;omega
   ·rw[if_neg (by omega),qGN (by omega)]
 have h1:=hs.os;have h2:=hs.tape;have h3:=hs.output;have h4:=hs.drawn trivial;have h5:W.drawn+ (w'.drawn -W.drawn)=w'.drawn:=by omega
 cases w';cases W;simp only[grow,World.drewN]at*;subst h1;subst h2;subst h3;rw[h5,<-d]
theorem UI(hTb:lg=[]){F g:Nat}{cf:X->X->Int}(L:SlLaysF0.n6 P ρ)(hf:ρ.f 6=F)(ev:X->List Value)(k el:Nat)(hk:∀x,(ev x).length=k)(Y:∀x,enc x=D.agg ((ev x).map D.v))
 (C:∀x,∀v∈ev x,v.oneCell'=true/\∀s,v= .string s->s.size<=maxLen) (aE:∀w,(isAgg (ρ.t 24)).run P w= .ok true w) (zE:∀w,(Go.sizeOf (ρ.t 24)).run P w= .ok k w)
 (hO:SWO (ltOf cf)) (hT:∀x y,(ltOf cf) x y=false->(ltOf cf) y x=false->x=y) (hg:Tri True P g (aG (a2 X X) (λ_=>True) (enc (X:=Int)) λx y=>y=cf x.1 x.2).pt) (eg:dc P g) (ef:dc P F):
 Tri dq P F (qrL (aD a0) (qwp g) (qlX cf) el k).pt:=by
 subst hf;intro O tp w vs ds H d K hO' htl p hlen u hA;obtain⟨id,v,l,ds',x,rfl,hd,hid,⟨hx1,hl5⟩,hK⟩:=hA;have hds:ds'=[.clo g []]:=by
  match ds',hd with
  | [],h=>cases h
  | a::r,h=>
    rw[qlR]at h
    match r,h with
    | [],h=>
      simp at h;subst h;simp only at hx1;rw[hx1]
    |b::r,h=>cases h
 subst hds
 match vs,hlen,u with
 | [v0,fv],_,u=>
 have e0:v0=v:=by
  have:=u 0 v0 _ rfl rfl;cases this;rfl
 have e1:fv= .func (.func g) #[] #[]:=by
  have:=u 1 fv _ rfl rfl;cases this with
  | clo _ xs _ hl _=>
    have:xs=[]:=by simpa using hl
    subst this;rfl
 subst e0;subst e1;refine⟨ef,?_⟩;obtain⟨xs,⟨hxl,hx⟩,hkn,Z⟩:=p.ok id _ hid;rcases hx with⟨rfl,h0⟩|⟨gb,cap,cur,rfl,_,hgb,hcap,hcapm,hsz,N⟩
 ·have hl0:l=[]:=by simpa using h0
  subst hl0;refine(AnyF.slices_SortFunc_none L none 0 _ w).mono ?_;rintro e w' ⟨rfl,rfl⟩;have hH:ai H id (some (.row (.slice none 0 0) el k (([]:List X).map enc)))=H:=by
   funext i;simp only[ai];by_cases hi:i=id
   ·subst hi;simp[hid]
   ·simp[hi]
  refine⟨_,_,_,tp,rfl,hK [] (by simp[qlX]),λb h=>h,λb h=> .inl h,htl.1, .refl _ _ _,λb h=> .inl (by rwa [hH]at h),by rw[hH];exact p, .tup [] [] rfl (λk x c h=>by simp at h)⟩
 ·have hll:(l.map (enc (X:=X))).length=l.length:=by simp
  rw[hll]at hcap hxl N ⊢;have hval:∀(j:Nat) (y v':Value),xs[j]? =some y->(bp (l.map enc))[j]? =some (.v v')->y=v':=λj y v' h1 h2=>((Z j y _ h1 h2).2).inv_v
  have hfl:bp (l.map enc)=(l.flatMap ev).map D.v:=by
   unfold bp;rw[List.flatMap_map,List.map_flatMap];congr 1;funext z;rw[Y z];rfl
  have hfml:=K6 (f:=ev) (n:=k) (l:=l) (λx _=>hk x);have hxs:xs=l.flatMap ev:=by
   apply qGo;intro j;by_cases W:j<l.length*k
   ·have e1:xs[j]? =some xs[j]:=qFH (by omega);have e2:(l.flatMap ev)[j]? =some (l.flatMap ev)[j]:=qFH (by omega);rw[e1,e2];congr 1;refine hval j _ _ e1 ?_;rw[hfl,qFU,e2];rfl
   ·rw[qF0 (by omega),qF0 (by omega)]
  have hcur:∀j,j<l.length*k->cur[j]? =(l.flatMap ev)[j]?:=λj W=>by
   rw[<-hxs,<-N,qF2,if_pos W,qF4]
  have hgs:gb<w.heap.size:=(qFS.1 hgb).1;have hH:HoldsK ev k w gb 0 l.toArray:=by
   intro j W;have hj':j<l.length*k:=by simpa using W
   refine⟨?_,BK hgb⟩;rw[Hk hgb,qGs,hcur j hj',<-BM ev k hk l,qF4,qGj W,getElem!_pos _ j W];rfl
  have I:=AnyQ.slices_SortFunc_total L k aE zE ev hk (λx v hv=>(C x v hv).1) cf hO g #[] gb 0 cap l.toArray w eg (qlg hTb ev Y C hg gb _ k w) hH hgs (by simp;omega) hT;simp only[qHe]at I;refine I.mono ?_;rintro e w' ⟨rfl,n,os,M⟩;generalize hl':(l.mergeSort λx y=>!(ltOf cf) y x)=l' at M;have A:l'.length=l.length:=by rw[<-hl'];simp
  have hwo:∀b,b<w.heap.size->b≠gb->w'.heap[b]? =w.heap[b]?:=λb hb hne=>by
   rw[M];exact EZ (w:=Sort.ahead w n) hb hne
  have hthis:w'.heap[gb]? =some (.cells (putCells _root_.id 0 (flatK ev k l'.toArray) cur) el (0,0)):=by
   rw[M];exact O1 (w:=Sort.ahead w n) hgb
  have hws:w.heap.size<=w'.heap.size:=by
   rw[M];simp[sortWorldK,grow,putRowK,putRow,mapBlock,Sort.ahead]
  have hos:w'.os=w.os/\w'.tape=w.tape/\w'.output=w.output/\w.drawn<=w'.drawn:=by
   rw[M];exact⟨rfl,rfl,rfl,Nat.le_add_right _ _⟩
  clear M I;have hbo:(Res.row (.slice (some ⟨gb,0,none⟩) l.length cap) el k (l.map enc)).blk=some gb:=rfl;have q:H id=some (.row (.slice (some ⟨gb,0,none⟩) l.length cap) el k (l.map enc)):=by rw[hid,hll]
  have Q:bA H gb:=⟨id,_,q,hbo⟩
  have htp:∀b,tp b->b≠gb:=λb hb e=>(p.out id _ gb q hbo).2 (e ▸hb)
  have J:∀b,tp b->TapeStep w w' b:=λb hb=> .same (hwo b (htl.1 b hb) (htp b hb))
  have hK':=hK l' (by simp only[qlX];rw[hl']);rw[hll]at hK';generalize hH2:ai H id (some (.row (.slice (some ⟨gb,0,none⟩) l.length cap) el k (l'.map enc)))=H2 at hK';have S:∀b,bA H2 b->bA H b:=λb ⟨i,r,h1,h2⟩=>by
   rw[<-hH2]at h1;simp only[ai]at h1;split at h1
   ·cases h1;cases h2;exact Q
   ·exact⟨i,r,h1,h2⟩
  have hmove:∀y c,R tp (aR O tp H w) w y c->R tp (aR O tp H2 w') w' y c:=λy c hr=>hr.mono (λ_ h=>h) (λb hb=>⟨⟨qFX hb.1 hws,hb.2.1,hb.2.2.1,λh=>hb.2.2.2 (S b h)⟩,hwo b hb.1 (λe=>hb.2.2.2 (e ▸Q))⟩) J
  have E:∀i r,H2 i=some r->(i=id/\r= .row (.slice (some ⟨gb,0,none⟩) l.length cap) el k (l'.map enc))\/(i≠id/\H i=some r):=λi r h=>by
   rw[<-hH2]at h;simp only[ai]at h;split at h
   ·rename_i e;cases h;exact .inl ⟨e,rfl⟩
   ·rename_i e;exact .inr ⟨e,h⟩
  refine⟨_,_,H2,tp,rfl,hK',λb h=>h,λb h=> .inl h,λb hb=>qFX (htl.1 b hb) hws,⟨hos.1,hos.2.1,hos.2.2.1,hws,λb hb ho ht=>hwo b hb (λe=>ho (e ▸Q)),J,λ_=>hos.2.2.2⟩,λb h=> .inl (S b h),⟨?_,?_,?_⟩, .tup [] [] rfl (λk x c h=>by simp at h)⟩
  ·intro i j r s b h1 h2 h3 h4;rcases E i r h1 with⟨rfl,rfl⟩|⟨n1,k1⟩
   ·rcases E j s h2 with⟨rfl,rfl⟩|⟨n2,k2⟩
    ·rfl
    ·exact p.dis _ j _ s b q k2 h3 h4
   ·rcases E j s h2 with⟨rfl,rfl⟩|⟨n2,k2⟩
    ·exact p.dis i _ r _ b k1 q h3 h4
    ·exact p.dis i j r s b k1 k2 h3 h4
  ·intro i r b h1 h2;rcases E i r h1 with⟨rfl,rfl⟩|⟨n1,k1⟩
   ·exact p.out _ _ b q h2
   ·exact p.out i r b k1 h2
  ·intro i r h1;rcases E i r h1 with⟨rfl,rfl⟩|⟨n1,k1⟩
   ·have U:=K6 (f:=ev) (n:=k) (l:=l') (λx _=>hk x);have hps:(putCells _root_.id 0 (flatK ev k l'.toArray) cur).size=cur.size:=by simp[putCells]
    refine⟨l'.flatMap ev,⟨by simp;rw[<-List.length_flatMap];exact U, .inr ⟨gb,cap,_,by simp[A],qF3 _,hthis,by simp;omega,hcapm,by rw[hps,hsz],?_⟩⟩,λd hd=>?_,λj y c h1 h2=>?_⟩
    ·simp only[qGq,A];apply qGo;intro j;rw[qF2];by_cases W:j<l.length*k
     ·have hjc:j<cur.size:=by
       have:l.length*k<=cap*k:=qF7 k hcap;omega
      have hjf:j<(flatK ev k l'.toArray).size:=by simp[A];exact W
      rw[if_pos W,qF4,<-BM ev k hk l',qF4];simp only[putCells,Array.getElem?_mapIdx,qGj hjc,qHd,qF3,qGs,hjf,and_self,if_true,Nat.sub_zero,id_eq];rw[qGj hjf,getElem!_pos _ j hjf]
     ·rw[if_neg W,qF0 (by rw[U,A];omega)]
    ·obtain⟨z,_,rfl⟩:=qFQ.1 hd;rw[Y z];exact⟨rfl,by simp[D.cells,hk]⟩
    ·have hfl':bp (l'.map enc)=(l'.flatMap ev).map D.v:=by
      unfold bp;rw[List.flatMap_map,List.map_flatMap];congr 1;funext z;rw[Y z];rfl
     rw[hfl',qFU,h1]at h2;cases h2;obtain⟨z,_,hz⟩:=qG5.1 (qFK h1);exact⟨(C z y hz).1, .v y (C z y hz).1 (C z y hz).2⟩
   ·have hne:∀b,r.blk=some b->b≠gb:=λb hb e=>n1 (p.dis i id r _ gb k1 q (e ▸hb) hbo)
    exact(p.ok i r k1).conv hmove (λb hb=>hwo b ((p.ok i r k1).lt hb) (hne b hb))
end
instance:Inhabited Span:=⟨⟨0,0⟩⟩
def qEt(s:Span):List Value:=[.int .i64 s.b, .int .i64 s.e]
def BG(x y:Span):ltOf vy x y=decide (C9 x y):=by
 unfold ltOf;have:=qlh x y;by_cases h:C9 x y
 ·simp only[h,decide_true,decide_eq_true_eq];by_cases h0:0<=vy x y
  ·exact absurd h (this.1 h0)
  ·omega
 ·simp only[h,decide_false,decide_eq_false_iff_not];have:=this.2 h;omega
def qqM:Go.Sort.SWO (ltOf vy) where
 irrefl x:=by rw[BG];simp[Jd]
 trans x y z h1 h2:=by rw[BG]at*;simp at*;exact KX h1 h2
 ntrans x y z h1 h2:=by rw[BG]at*;simp at*;unfold C9 at*;omega
def XU{P:Program}{f:Nat}{X Y:Type}[Cod Y]{A:dP X}{pre j:X->List Y->Prop}{post k:X->List Y->List Y->Prop}{el n:Nat}(h:Tri dq P f (qrL A pre post el n).pt)(h1:∀x l,j x l->pre x l)(h2:∀x l r,j x l->post x l r->k x l r):
 Tri dq P f (qrL A j k el n).pt:=λO tp w vs ds H d K a b c e g ⟨id,v,l,p,x,s,t,u,q,y⟩=>h O tp w vs ds H d K a b c e g ⟨id,v,l,p,x,s,t,u,h1 x l q,λl' hp=>y l' (h2 x l l' q hp)⟩
open Go.Proofs Cod
def qsr{p:Cond}(h:dB p<=0):False:=by rw[JG]at h;omega
def LE:TQ dq lM tT:=
 ac (ag ae) IN (Uk)
def qbs:TQ dq xa Iq:=
 ac (ag (aa LE ae)) LZ (Xt rfl)
def MD:TQ dq cD wn:=
 ac (ag (aa LE (aa qbs ae))) AA (JY rfl rfl)
def OY:∀n,TQ dq wW (qdq n)
 | 0=>bH λx h=>qsr h
 |n+1=>ck (ag (aa (OY n) ae)) Y3 (λ_=>qFJ rfl) (qa4 n rfl)
def qbq:TQ dq wW qdr:=
 dC (λn=>OY n) (fH (λx _=>⟨dB x.1,qFM _⟩))
def XL:TQ dq Ec LN:=
 ac (ag (aa qbq ae)) Vn (Xj rfl)
def Iw:∀n,TQ dq qN (Yp n)
 | 0=>bH λx h=>qb6 h.1
 |n+1=>ck (ag (aa XL (aa (Iw n) ae))) RB (λ_=>qFJ rfl) (Uc n rfl rfl)
def UA:TQ dq qN Sr:=
 dC (λn=>Iw n) (fH (λx h=>⟨cg x.1,qFM _,h⟩))
def LU:∀n,TQ dq uc (qdu n)
 | 0=>bH λx h=>qb6 h
 |n+1=>ck (ag (aa MD (aa (LU n) ae))) Vo (λ_=>qFJ rfl) (Xk n rfl rfl)
def XM:TQ dq uc Yr:=
 dC (λn=>LU n) (fH (λx _=>⟨cg x,qFM _⟩))
def FN:∀n,TQ dq nL (Sv n)
 | 0=>bH λx h=>qb6 h
 |n+1=>ck (ag (aa (FN n) ae)) Pc (λ_=>qFJ rfl) (Q4 n rfl)
def Rq:TQ dq nL OF:=
 dC (λn=>FN n) (fH (λx _=>⟨cg x,qFM _⟩))
def nW:TQ dq dT cB:=
 ac (ag (aa UA (aa XM (aa Rq ae)))) Kz (Ml rfl rfl rfl)
def OX:∀n,TQ dq wU (UW n)
 | 0=>bH λx h=>qb6 h.1
 |n+1=>ck (ag (aa (OX n) ae)) Y0 (λ_=>qFJ rfl) (qa2 n rfl)
def qbn:TQ dq wU EU:=
 dC (λn=>OX n) (fH (λx h=>⟨cg x,qFM _,h⟩))
def LT:∀n,TQ dq iU (Nq n)
 | 0=>bH λx h=>qb6 h.1
 |n+1=>ck (ag (aa (LT n) ae)) Vl (λ_=>qFJ rfl) (Xi n rfl)
def XJ:TQ dq iU Ih:=
 dC (λn=>LT n) (fH (λx h=>⟨cg x,qFM _,h⟩))
def Iy:∀n,TQ dq jp (Zy n)
 | 0=>pP λd ds H K ⟨id,v,l,a,x,h1,h2,h3,h4,h5⟩=>qb6 h4.1
 |n+1=>AY (ag (aa (Iy n) ae)) FS (by decide) (Ud n rfl)
def Dk:Tri dq Tryz.prog jp i_leavesA.pt:=dC (λn=>Iy n) λd ds H K ⟨id,v,l,a,x,h1,h2,h3,h4,h5⟩=>⟨cg x,id,v,l,a,x,h1,h2,h3,⟨qFM _,h4⟩,h5⟩
def UB:Tri dq Tryz.prog jp s_leaves.pt:=Ob (Ao (ag (aa Dk ae)) FS (λ_=>qFJ rfl) (Q5 rfl)) Dk
def UC:TQ dq vL Il:=
 ac (ag (aa nW (aa UB ae))) RC (Ue rfl rfl)
def qbp:TQ dq BP Gn:=
 ac (ag (aa nW (aa qbn ae))) Y2 (qa3 rfl rfl)
def XN:TQ dq ud EY:=
 ac (ag (aa nW (aa XJ ae))) Vp (Xl rfl rfl)
def UF:TQ dq vN Im:=
 ac (ag (aa tv (aa AX ae))) RO (Up rfl rfl)
def qbl:TQ dq Hb OC:=
 ac (ag ae) YY (qa0)
def qbm:TQ dq BO OD:=
 ac (ag ae) YZ (qa1)
def Uz:TQ dq vK Ii:=
 ac (ag (aa qbm ae)) RA (Ua rfl)
def LS:∀n,TQ dq iT (LM n)
 | 0=>bH λx h=>qb6 h.1.1
 |n+1=>ck (ag (aa Uz (aa XN (aa UC (aa (LS n) ae))))) Vj (λ_=>qFJ rfl) (Xh n rfl rfl rfl rfl)
def XH:TQ dq iT Ij:=
 dC (λn=>LS n) (fH (λx h=>h))
def XI:TQ dq Ea Ik:=
 ac (ag (aa nW (aa qbp (aa XH ae)))) Vk (Ub rfl rfl rfl)
def Aj:TQ dq eC ms:=
 ac (ag ae) IV (J4)
def Dj:TQ dq gI FM:=
 Gg (ag ae) CU (λ_=>qFJ rfl) (Da)
def Ag:TQ dq fl At:=
 Gg (ag ae) zj (λ_=>qFJ rfl) (Ac)
def Gd:TQ dq fV od:=
 ac (ag (aa kY (aa Cp ae))) ok_estimate_compare (F6 rfl rfl)
theorem yJ:Tri dq Tryz.prog gX s_SortFunc_Source.pt:=by
 have h:=UI (dq:=dq) (hTb:=rfl) (cf:=vy) (el:=aK) Tryz.sortSource rfl qEt 2 (λ_=>rfl) (λ_=>rfl) (λx v p=>by simp[qEt]at p;rcases p with rfl|rfl<;>exact⟨rfl,λs h=>by cases h⟩) Tryz.isAgg50 Tryz.sizeOf50
  qqM (λx y h1 h2=>by rw[BG]at h1 h2;simp at h1 h2;rcases Nx x y with h|h|h<;>first|exact h|exact absurd h h1|exact absurd h h2) Gd ok_estimate_compare.enter (fu Tryz.func127 (by kernel_rfl) rfl)
 refine XU h (λx l hp=>hp) (λx l r hp d=>?_);have d:r=l.mergeSort λx y=>!(ltOf vy) y x:=d
 subst d;refine⟨by simp,λx=>by simp[List.mem_mergeSort],?_⟩;have:=List.pairwise_mergeSort (le:=λx y=>!(ltOf vy) y x) (λa b c h1 h2=>by simp only[BG]at*;simp at*;unfold C9 at*;omega) (λa b=>by simp only[BG];simp;unfold C9;omega) l;refine qGJ.2 λi j hi q k=>?_
 have h:=qGJ.1 this i j hi q k;generalize (l.mergeSort λx y=>!(ltOf vy) y x)[i]=a at h ⊢;generalize (l.mergeSort λx y=>!(ltOf vy) y x)[j]=b at h ⊢;rw[BG]at h;simpa using h
def HT:Tri dq Tryz.prog qK s_Sort_int.pt:=XS Tryz.sortInt rfl (fu Tryz.func79 (by kernel_rfl) rfl)
def Kh:TQ dq iG sd:=
 ac (ag (aa FI (aa Aj (aa HT (aa Dj ae))))) IU (J3 rfl rfl rfl rfl)
def Aw:∀n,TQ dq aM (Nr n)
 | 0=>pP λd ds H K ⟨id,b,x,z,a,h1,h2,h3,h4,h5,hp,c⟩=>qb6 hp.1.1
 |n+1=>wl (by decide) (S:=JN [(hU,EY),(eC,ms),(iG,sd),(aM,Nr n)]) (ag (aa FI (aa Aj (aa Kh (aa (Aw n) ae))))) zn (λ_=>qFJ rfl) (J2 n rfl rfl rfl rfl)
def Ak:Tri dq Tryz.prog aM s_visitA.pt:=dC (λn=>Aw n) λd ds H K ⟨id,b,x,z,a,h1,h2,h3,h4,h5,⟨n,hp⟩,c⟩=>⟨n,id,b,x,z,a,h1,h2,h3,h4,h5,hp,c⟩
def Al:TQ dq mE se:=
 ac (ag (aa UF (aa Ak (aa yJ (aa Ag ae))))) IW (J5 rfl rfl rfl rfl)
end
section
open Go.Proofs
open Cod (enc dec)
variable {dq:Prop}
section
variable {X Y Z:Type}
variable {P:Program}{S:Nat->Spc}{f:Nat}{im:List Nat}{cc:CC}{rs:List aj}{N:Nat}
end
end
section
open Go.Proofs
open Cod (enc dec)
variable {S S0:Nat->Spc}
end
section
open Go.Proofs
def Gl{x:Cond}(h:sa x=false):x.op≠4/\∀k∈x.kids,sa k=false:=by
 rw[Np,Bool.or_eq_false_iff]at h;refine⟨λe=>by simp[e]at h,λk hk=>?_⟩;cases hs:sa k with
 |false=>rfl
 | true=>
   have:=qGU.2 ⟨k,hk,hs⟩;rw[h.2]at this;cases this
theorem Jh{c:Corpus}{t:Int}{lb lb':List B}{bd bd':List Int} :∀(n:Nat) (x:Cond),sa x=false->nJ ⟨c,t,lb,bd⟩ n x=nJ ⟨c,t,lb',bd'⟩ n x
 | 0,_,_=>rfl
 | n+1,x,h=>by
   obtain⟨h4,hk⟩:=Gl h;have a:∀k∈x.kids,nJ ⟨c,t,lb,bd⟩ n k=nJ ⟨c,t,lb',bd'⟩ n k:=λk hm=>Jh n k (hk k hm)
   rw[nJ,nJ];dsimp only;rw[if_neg h4,if_neg h4];have a0:(x.kids.all λk=>(nJ ⟨c,t,lb,bd⟩ n k).isSome)=x.kids.all λk=>(nJ ⟨c,t,lb',bd'⟩ n k).isSome:=by
    rw[qGg,qFN,qFN];exact⟨λg k hm=>by rw[<-a k hm];exact g k hm,λg k hm=>by rw[a k hm];exact g k hm⟩
   have a1:(x.kids.any λk=>!((nJ ⟨c,t,lb,bd⟩ n k).getD false))=x.kids.any λk=>!((nJ ⟨c,t,lb',bd'⟩ n k).getD false):=zU λk hm=>by rw[a k hm]
   have a2:(x.kids.any λk=>(nJ ⟨c,t,lb,bd⟩ n k).getD false)=x.kids.any λk=>(nJ ⟨c,t,lb',bd'⟩ n k).getD false:=zU λk hm=>by rw[a k hm]
   rw[a0,a1,a2];cases b:x.kids with
   |nil=>rfl
   |cons k ks=>dsimp only;rw[a k (by rw[b];simp)]
mutual
def qE:∀x:Cond,sa x=false->iQ x=x
 | .mk op n a v l f ks,h=>by
   have h2:=Gl h;have h4:¬op=4:=h2.1;rw[iQ,if_neg (by simp[h4,h]),Td ks h2.2]
def Td:∀ks:List Cond,(∀k∈ks,sa k=false)->D4 ks=ks
 | [],_=>rfl
 |k::ks,h=>by rw[D4,qE k (h k (by simp)),Td ks λk hk=>h k (by simp[hk])]
end
mutual
def qdX:∀x:Cond,io (iQ x)<=io x/\dB (iQ x)<=dB x
 | .mk op n a v l f ks=>by
   rw[iQ];have:=Za ks;split
   ·simp only[io,fE,dB,iV];omega
   ·simp only[io,dB];omega
def Za:∀ks:List Cond,fE (D4 ks)<=fE ks/\iV (D4 ks)<=iV ks
 | []=>by simp[D4]
 | k::ks=>by
   have:=qdX k;have:=Za ks;simp only[D4,fE,iV];omega
end
inductive GL:Nat->Cond->Prop
 |atom (n:Nat) (c:Cond) (h:GA [] c):GL n c
 |any (n:Nat):GL n ⟨1,E0,E0,E0,E0,false, []⟩
 |top (n:Nat) (v:B) (f:Bool) (h:v∈ValsT):GL n ⟨2,E0,E0,v,E0,f, []⟩
 |not (n:Nat) (k:Cond) (h:GL n k):GL (n+1) ⟨6,E0,E0,E0,E0,false, [k]⟩
 |two (n:Nat) (op:Int) (a b:Cond) (ho:op=7\/op=8) (h1:GL n a) (h2:GL n b):GL (n+1) ⟨op,E0,E0,E0,E0,false, [a,b]⟩
def qkm{lb:List B}{c:Cond}(h:GA lb c)(hs:sa c=false):GA [] c:=by
 cases h with
 |val n v f h1 h2=>exact .val n v f h1 h2
 |feat v h=>exact .feat v h
 |same n l a h1 h2 h3=>exact absurd rfl (Gl hs).1
 |reg n h=>exact .reg n h
 |regk n v h1 h2=>exact .regk n v h1 h2
def NE{lb:List B} :∀{n:Nat} {x:Cond},GI lb n x->sa x=false->GL n x
 | _,_, .atom n c h,hs=> .atom n c (qkm h hs)
 | _,_, .not n k h,hs=> .not n k (NE h ((Gl hs).2 k (by simp)))
 | _,_, .two n op a b ho h1 h2,hs=> .two n op a b ho (NE h1 ((Gl hs).2 a (by simp))) (NE h2 ((Gl hs).2 b (by simp)))
def Nz{x:Cond}(h:x.op=4\/x.op=6/\sa x=true):iQ x=⟨1,E0,E0,E0,E0,false, []⟩:=by rw[NA,if_pos h];rfl
def qd3{op:Int}{a b:Cond}(ho:op=7\/op=8):iQ ⟨op,E0,E0,E0,E0,false, [a,b]⟩=⟨op,E0,E0,E0,E0,false, [iQ a,iQ b]⟩:=by
 rw[NA,if_neg (by
  rintro(h|⟨h,_⟩)
  ·rcases ho with rfl|rfl<;>cases h
  ·rcases ho with rfl|rfl<;>cases h)]
 rfl
def ZM{lb:List B} :∀{n:Nat} {x:Cond},GI lb n x->GL n (iQ x)
 | _,_, .atom n c h=>by
   cases hs:sa c with
   |false=>rw[qE c hs];exact .atom n c (qkm h hs)
   | true=>
     have h4:c.op=4:=by
      rw[Np,yt h]at hs;simpa using hs
     rw[Nz (.inl h4)];exact .any n
 | _,_, .not n k h=>by
   cases hs:sa ⟨6,E0,E0,E0,E0,false, [k]⟩with
   |false=>rw[qE _ hs];exact .not n k (NE h ((Gl hs).2 k (by simp)))
   |true=>rw[Nz (.inr ⟨rfl,hs⟩)];exact .any _
 | _,_, .two n op a b ho h1 h2=>by
   rw[qd3 ho];exact .two n op _ _ ho (ZM h1) (ZM h2)
def qvi{lb:List B}{n:Nat}{x:Cond}(h:GC lb n x):GL n (iQ x):=by
 cases h with
 |any=>rw[qE _ rfl];exact .any n
 |top v f h=>rw[qE _ rfl];exact .top n v f h
 |inner c h=>exact ZM h
def Tl{E:R9}(j:JM E)(d:E.lb=[]):∀{n m:Nat} {x:Cond},GL n x->n<m->∃y,nJ E m x=some y
 | _,m+1,_, .atom n c h,_=>qpO j (d ▸h)
 | _,m+1,_, .any n,_=>qj7 j (n:=0) .any (by omega)
 | _,m+1,_, .top n v f h,_=>qj7 j (n:=0) (.top v f h) (by omega)
 | _,m+1,_, .not n k h,hm=>by
   obtain⟨y,r⟩:=Tl (m:=m) j d h (by omega);exact⟨_,qj6 r⟩
 | _,m+1,_, .two n op a b ho h1 h2,hm=>by
   obtain⟨p,hp⟩:=Tl (m:=m) j d h1 (by omega);obtain⟨q,l⟩:=Tl (m:=m) j d h2 (by omega);rcases ho with rfl|rfl
   ·exact⟨_,VS hp l⟩
   ·exact⟨_,qef hp l⟩
def I3:∀{n m:Nat} {x:Cond},GL n x->n<m->tX ij [] m x=true
 | _,m+1,_, .atom n c h,_=>BB (qdW h) (yt h)
 | _,m+1,_, .any n,_=>Px (n:=0) .any (by omega)
 | _,m+1,_, .top n v f h,_=>Px (n:=0) (.top v f h) (by omega)
 | _,m+1,_, .not n k h,hm=>ST (I3 h (by omega))
 | _,m+1,_, .two n op a b ho h1 h2,hm=>SR ho (I3 h1 (by omega)) (I3 h2 (by omega))
theorem qcl{c:Corpus}{t:Int}{lb:List B}{bd:List Int}(j:JM ⟨c,t,lb,bd⟩):∀{n m:Nat} {x:Cond},GI lb n x->n<m->nJ ⟨c,t,lb,bd⟩ m x=some true->nJ ⟨c,t, [], []⟩ m (iQ x)=some true
 | _,m+1,_, .atom n x h,_,d=>by
   cases hs:sa x with
   |false=>rw[qE x hs,Jh (lb':=lb) (bd':=bd) _ x hs];exact d
   | true=>
     have h4:x.op=4:=by
      rw[Np,yt h]at hs;simpa using hs
     rw[Nz (.inl h4)];unfold nJ;rw[if_pos rfl]
 | _,m+1,_, .not n k h,_,d=>by
   cases hs:sa ⟨6,E0,E0,E0,E0,false, [k]⟩with
   |false=>rw[qE _ hs,Jh (lb':=lb) (bd':=bd) _ _ hs];exact d
   | true=>
     rw[Nz (.inr ⟨rfl,hs⟩)];unfold nJ;rw[if_pos rfl]
 | _,m+1,_, .two n op a b ho h1 h2,hm,d=>by
   have s:JM ⟨c,t, [], []⟩:=⟨j.c,j.t0,j.t1,rfl⟩
   obtain⟨p,hp⟩:=Tm (m:=m) j h1 (by omega);obtain⟨q,u⟩:=Tm (m:=m) j h2 (by omega);obtain⟨A,l⟩:=Tl (m:=m) s rfl (ZM h1) (by omega);obtain⟨C,r⟩:=Tl (m:=m) s rfl (ZM h2) (by omega);have w:p=true->A=true:=λe=>by
    subst e;exact qFT (l.symm.trans (qcl j h1 (by omega) hp))
   have y:q=true->C=true:=λe=>by
    subst e;exact qFT (r.symm.trans (qcl j h2 (by omega) u))
   rw[qd3 ho];rcases ho with rfl|rfl
   ·rw[VS hp u]at d;rw[VS l r];have h3:=qFT d;simp only[qFO]at h3;rw[w h3.1,y h3.2];rfl
   ·rw[qef hp u]at d;rw[qef l r];have h3:=qFT d;simp only[Bool.or_eq_true]at h3;rcases h3 with h3|h3
    ·rw[w h3];rfl
    ·rw[y h3];simp
def qoh{c:Corpus}{t:Int}{lb:List B}{bd:List Int}(b:JM ⟨c,t,lb,bd⟩){n m:Nat}{x:Cond}(h:GC lb n x)(hm:n<m)(a:nJ ⟨c,t,lb,bd⟩ m x=some true):nJ ⟨c,t, [], []⟩ m (iQ x)=some true:=by
 cases h with
 |any=>rw[qE _ rfl,Jh (lb':=lb) (bd':=bd) _ _ rfl];exact a
 |top v f h=>rw[qE _ rfl,Jh (lb':=lb) (bd':=bd) _ _ rfl];exact a
 |inner x h=>exact qcl b h hm a
open Cod (enc dec)
variable {S S0:Nat->Spc}
def qh7{c:Corpus}(hc:OkCorp c){lb:List B}{n:Nat}{x:Cond}(d:GC lb n x)(hn:n<=3):JK (c,x):=by
 have a:=qvi d;have h:=qkl d;have j:=qdX x;have h3:2^ (n+1)<=2^4:=Nat.pow_le_pow_right (by decide) (by omega);have b:∀i:Nat,i<c.toks.length->JM ⟨c,(i:Int), [], []⟩:=λi hi=>⟨hc,by show(0:Int)<=(i:Int);omega,by show(i:Int)<c.toks.length;omega,rfl⟩
 exact⟨hc.sz,by show io x<=60;omega,by show dB x<=60;omega,by
  show qmt c.attrs [] (iQ x)=true;rw[show c.attrs=ij from hc.1];exact qjk (by omega) (by omega) (I3 a (by omega)),λi hi=>Tl (b i hi) rfl a (by omega)⟩
def QD{n:Nat}{c:Corpus}{q:Qry}(hc:TR c)(b:GQ n q)(hn:n<=5):yI WK c q/\jS q.pat<=1000:=by
 have a:=Zl hc b hn;obtain⟨lb,hl,h⟩:=b.lab;have h1:=qqc n q.pat h;have h2:2^n<=32:=by
  rcases n with _|_|_|_|_|_|n
  all_goals first|decide|omega
 refine⟨⟨a.v,a.v.pat,a.v.size,⟨a.v.num,by omega⟩,⟨?_,λx d=>(a.v.lv x d).2⟩,by have:=hc.few;omega,λx d=>qh7 hc.ok (b.cond x d) (by decide)⟩,by omega⟩;have:=sJ q.pat;have:=a.v.num;simp;omega
end
section
open Go.Proofs
open Cod (enc dec)
def Gh(c:UInt8):Pat:=⟨1,⟨2,E0,E0,⟨#[c]⟩,E0,false, []⟩,E0,E0,0,0, []⟩
def qpl:B:=⟨#[34,97,34,32,34,99,34]⟩
def q32:Qry:=⟨⟨4,Cond0,E0,E0,0,0, [Gh 97,Gh 99]⟩,GlobE, [],0⟩
abbrev OE(s:B)(q:Qry):Spc:=aG (a1 B) (λx=>x=s) (qow (Y:=Qry) (Z:=Int) (W:=Int)) λ_ y=>y=(q,0,0)
variable {dq:Prop}
def qhS{s:B}{p:Pat}(h:O6 s=some p)(t:Tri dq Tryz.prog pE s_Parse.pt):TQ dq pE (OE s ⟨p,GlobE, [],0⟩):=
 dC (λ_=>t) λd ds H K hk=>⟨0,by
  rw[mO]at hk ⊢;cases e:(a1 B).dec ds with
  |none=>rw[e]at hk;exact hk
  | some x=>
    rw[e]at hk;obtain⟨rfl,hk⟩:=hk;exact⟨⟨_,h⟩,λy ⟨a,hp,e⟩=>hk y (by rw[h]at hp;cases hp;exact e)⟩⟩
def qfA:TQ dq pE (OE qpl q32):=qhS (by kernel_rfl) XO
end
section
open Go.Proofs
open Cod (enc dec)
variable {S S0:Nat->Spc}
def c32:Corpus:=⟨[⟨⟨#[119,111,114,100]⟩,false⟩], [[⟨#[97]⟩], [⟨#[98]⟩], [⟨#[97]⟩], [⟨#[99]⟩]], [⟨⟨#[116]⟩,0,4, []⟩], [], [], [], []⟩
abbrev Sy:Spc:=aG a0 (λ_=>True) (enc (X:=Bool)) λ_ y=>y=true
def Xd:List Span:=[⟨0,0⟩,⟨1,1⟩]
def qpo:SrcsOf q32.pat Xd:=by
 refine⟨by simp[SS,Xd,C9],λs=>?_⟩;show s∈Xd↔SrcE ⟨4,Cond0,E0,E0,0,0, [Gh 97,Gh 99]⟩ 0 0 s;have a:aO (Gh 97)=(1,1):=by decide
 have b:aq (Gh 97)=[Gh 97]:=rfl;rw[qfF rfl];show s∈Xd↔pK [Gh 97,Gh 99] 0 0 s;rw[pK,pK,pK,qfG rfl,qfG rfl,a,b];simp[Xd]
def qv9:qlx c32 q32 Xd=[2]:=by kernel_rfl
def qsz:yE (pJ c32 q32) [] Xd=[⟨1,1⟩]:=by kernel_rfl
def qAR:qc2 Xd Xd:=by
 intro k x a
 match k with
 | 0=>simp[Xd]at a;subst a;exact⟨by simp[Xd],λ_ h=>by omega⟩
 | 1=>simp[Xd]at a;subst a;exact⟨by simp[Xd],λy _ b=>by simp[Xd]at b;subst b;decide⟩
 |k+2=>simp[Xd]at a
def qnv{y:List Int×Int}(h:ql1 (c32,q32,Xd) y):y=([2],0):=by
 obtain⟨F,a,h⟩:=h;have e:F=Xd:=SrcsOf.eq a qpo;subst e;rcases h with⟨rfl,_⟩|⟨_,h⟩
 ·exact congrArg (·,0) qv9
 ·exact absurd qAR h
def qi7{y:List Span×Int}(h:qcW (c32,q32) y):y=([⟨1,1⟩],0):=by
 obtain⟨F,a,rfl⟩:=h;have e:F=Xd:=SrcsOf.eq a qpo;subst e;exact congrArg (·,0) qsz
theorem qfj{V:List Attr->Qry->Prop}(h1:S pE=OE qpl q32)(h2:S tK=UX V)(h3:S El=qds V)(h4:S He=qiM)(h5:S Hb=OC)(j:yI V c32 q32):ak xR wJ S a0 (λ_=>True) (enc (X:=Bool)) λ_ y=>y=true:=by
 rintro⟨⟩ -;have k:qeY V (⟨[⟨⟨#[119,111,114,100]⟩,false⟩], [[⟨#[97]⟩], [⟨#[98]⟩], [⟨#[97]⟩], [⟨#[99]⟩]], [⟨⟨#[116]⟩,0,4, []⟩], [], [], [], []⟩,q32, [⟨0,0⟩,⟨1,1⟩]):=⟨j,by decide⟩
 have d:yI V ⟨[⟨⟨#[119,111,114,100]⟩,false⟩], [[⟨#[97]⟩], [⟨#[98]⟩], [⟨#[97]⟩], [⟨#[99]⟩]], [⟨⟨#[116]⟩,0,4, []⟩], [], [], [], []⟩ q32:=j;simp[xR,wJ,h1,h2,h3,k,d,-fB'];refine⟨rfl,λa e h=>?_⟩;have h:(a,e)=([2],0):=qnv h;cases h;intro b f c;have c:(b,f)=([⟨1,1⟩],0):=qi7 c;cases c;simp[h4,h5,Ig,-fB']
def V12(a:List Attr)(q:Qry):Prop:=WK a q\/qzZ a q
def qpq{x:Cond}(h1:io x<=60)(h2:dB x<=60)(h:(qmt c32.attrs [] (iQ x) && (List.range 4).all λi=>(nJ ⟨c32,(i:Int), [], []⟩ 21 (iQ x)).isSome)=true):JK (c32,x):=by
 simp only[qFO,qFN,qGV]at h;exact⟨⟨(by decide:c32.toks.length<=100000),(by decide:∀r∈c32.toks,r.length<=100000),(by decide:c32.attrs.length<=1000)⟩,h1,h2,h.1,λi hi=>qGG.1 (h.2 i hi)⟩
def qrE{x:Pat}(a:x∈aq q32.pat):x=Gh 97\/x=Gh 99:=by
 have h:x∈ [Gh 97,Gh 99]:=a;simpa using h
def qjw:tt (λq=>xY q/\lF q=true/\nI aB q=true) q32.pat:=by
 have a:∀q:Pat,q.op≠2->q.op≠3->q.lab=⟨#[]⟩->nI aB q=true:=λq h2 h3 h=>by
  unfold nI;rw[decide_eq_true_eq];exact⟨λb=>by omega,λb=>absurd h b⟩
 intro q c;have:q∈ [q32.pat,Gh 97,Gh 99]:=c;simp only[qFP,qGi,or_false]at this;rcases this with rfl|rfl|rfl
 ·exact⟨.inr (.inr (.inl ⟨.inl rfl,rfl,rfl,rfl,rfl,rfl,by decide⟩)),rfl,a _ (by decide) (by decide) rfl⟩
 ·exact⟨.inl ⟨rfl,rfl,rfl,rfl,rfl⟩,rfl,a _ (by decide) (by decide) rfl⟩
 ·exact⟨.inl ⟨rfl,rfl,rfl,rfl,rfl⟩,rfl,a _ (by decide) (by decide) rfl⟩
def Vh{f:Pat->Bool}(p:Pat)(h:tt (λq=>f q=true) p):cx f p=true:=by
 induction p using fg with|_ p a=>?_
 rw[cZ,py h,qHl,qFN];exactλk hk=>a k hk (wM h hk)
def qpC:fy aB q32.pat=true:=by
 unfold fy;rw[Vh q32.pat (vW qjw λq h=>(vX q).2 h.1),Vh q32.pat (vW qjw λq h=>h.2.2),Vh q32.pat (vW qjw λq h=>h.2.1)];rfl
def qoZ:yI V12 c32 q32:=by
 refine⟨.inr ⟨rfl,rfl,rfl,qpC,by decide,by decide,by decide,by decide,λx a=>?_⟩,qpC,by decide,⟨by decide,by decide⟩,⟨by decide,λx a=>?_⟩,by decide,λx a=>?_⟩
 ·rcases qrE a with rfl|rfl
  ·exact⟨by kernel_rfl,1,by decide,λk hk=>by cases hk⟩
  ·exact⟨by kernel_rfl,1,by decide,λk hk=>by cases hk⟩
 ·rcases qrE a with rfl|rfl
  ·exact⟨1,by decide,λk hk=>by cases hk⟩
  ·exact⟨1,by decide,λk hk=>by cases hk⟩
 ·rcases qrE a with rfl|rfl
  ·exact qpq (by decide) (by decide) (by kernel_rfl)
  ·exact qpq (by decide) (by decide) (by kernel_rfl)
def qaB{n:Nat}{c:Corpus}{q:Qry}(hc:TR c)(a:GQ n q)(hn:n<=5):yI V12 c q:=
 have h:=(QD hc a hn).1
 ⟨.inl h.v,h.pat,h.size,h.fx,h.pl,h.few,h.sel⟩
def qiY(n:Nat):(Bl n).length=n:=by simp[Bl]
abbrev quu:Spc:=aG (a3 (List Int) (List Int) (List Int)) (λ_=>True) (enc (X:=Bool)) λ_ y=>y=true
end
section
open Go.Proofs
end
end Go.Gv
