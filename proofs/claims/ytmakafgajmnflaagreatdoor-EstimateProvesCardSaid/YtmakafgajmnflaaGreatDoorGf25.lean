/- W17 -/
import Derived.Shelf.SortG.Plain
import Derived.Shelf.SortG.SortNone
import Derived.Shelf.SlLaysNS
import Derived.Ground.SlgnProg
import Derived.Test.YtmakafgajmnflaaGreatDoorProg
import Derived.Shelf.SlIterI.Sorted
import Derived.DataShut
import Derived.Test.YtmakafgajmnflaaGreatDoorGf24
set_option linter.all false
set_option maxRecDepth 100000
set_option maxHeartbeats 0
namespace Go.Gv
section
open Cod (enc dec)
variable {S:Nat->Spc}
def qpS(p:Int)(t:ro):Bool:=decide (t.b<=p/\p<t.e)
def qlK:ro:=⟨⟨#[]⟩,0,0, []⟩
def HU(c:Corpus)(p:Int):ro×Bool:=match c.texts.find? (qpS p)with
 |some t=>(t,true)
 |none=>(qlK,false)
abbrev FQ:Spc:=aJ (a2 Corpus Int) (λ_=>True) (qR (Y:=ro) (Z:=Bool)) λx y=>y=HU x.1 x.2
def qbi{α:Type}{p:α->Bool} :∀{l:List α} {k:Nat} {x:α},l[k]? =some x->p x=true->(∀y∈l.take k,p y=false)->l.find? p=some x
 | [],k,x,h,_,_=>by simp at h
 |a::l,0,x,h,h1,_=>by simp at h;subst h;simp[h1]
 | a::l,k+1,x,h,h1,h2=>by
   have b:p a=false:=h2 a (by simp);rw[List.find?_cons_of_neg (by simp[b])];exact qbi (k:=k) (by simpa using h) h1 λy c=>h2 y (by simp[c])
theorem Q5:aq xb wv S (a2 Corpus Int) (λ_=>True) (qR (Y:=ro) (Z:=Bool)) λx y=>y=HU x.1 x.2:=by
 rintro⟨c,p⟩ -;simp[xb,wv];intro b hlen;refine ah (X:=Unit) [1,4,9] [4] c.texts.length (λk _=>∀y∈c.texts.take k,qpS p y=false) (λ_=>[]) (λ_=>[]) () (by simp) ?_ ?_
 ·intro k _ hk a;obtain⟨t,d⟩:=bh hk;obtain⟨_,h⟩:=qCd.1 d;simp[d,hk,h];refine⟨λh1=>⟨λh2=>?_,λh2=>?_⟩,λh1=>?_⟩
  ·refine⟨t, .same _,?_⟩;simp[HU,qbi d (by simp[qpS];omega) a]
  all_goals
   rw[aB d];intro y hy;rcases qCk.1 hy with hy|hy
   ·exact a y hy
   ·simp at hy;subst hy;simp[qpS];omega
 ·intro _ a;simp at a;simp;refine⟨qlK,?_,?_⟩
  ·rw[cg,cg,cg,cg];exact⟨.same _, .same _, .same _, .nil _, .same _⟩
  ·simp only[HU];rw[qEl.2 (λy hy=>by simp[a y hy])]
def AA(a b:Span):Int:=if tQ a.b b.b≠0 then tQ a.b b.b else tQ a.e b.e
def qhI(a b:Span):0<=AA a b↔ ¬Ql a b:=by
 unfold AA tQ Ql
 repeat' split
 all_goals omega
end
section
open Cod (enc dec)
variable {S S0:Nat->Spc}
abbrev D2:Spc:=aJ (a2 Span Span) (λ_=>True) (enc (X:=Int)) λx y=>y=AA x.1 x.2
def DM(h1:S dD=jM)(h2:S pv=yL):aq mh lO S (a2 Span Span) (λ_=>True) (enc (X:=Int)) λx y=>y=AA x.1 x.2:=by
 rintro⟨a,b⟩ -;simp[mh,lO,h1,h2,AA];by_cases h:tQ a.b b.b=0
 ·by_cases c:tQ a.e b.e=0
  ·simp[h,c]
  ·simp[h,c]
 ·simp[h]
def qbZ(x:D×Unit)(l:List Span):Prop:=x.1= .clo fw []/\l.length<=100000
abbrev s_SortFunc_Source:Spc:=qn8 (aD a0) qbZ ZQ bI 2
abbrev s_visitA:Spc:=qp8 fndB (a2 Pat (List Int)) Ti (λx z=>∃n,Hn n x z) CM
theorem Yk{n:Nat}{p:Pat}{l:List Int}{leaf:Int}{v:Value}{out:List Span}{id d b:Nat}{P L:D}{H:ab}{K:D->ab->Prop}(hid:id≠47)(s:dec P=some p)(t:dec L=some l)
 (h0:H id=some (.box b [.v (.int .i64 leaf), .own 47 v])) (k:H 47=some (.row v bI 2 (out.map enc))) (h:Hn n ⟨leaf,v,out⟩ (p,l))
 (u:∀a v' c,CM ⟨leaf,v,out⟩ (p,l) ⟨a,v',c⟩ ()->K (.tup []) (ai (ai H 47 (some (.row v' bI 2 (c.map enc)))) id (some (.box b [.v (.int .i64 a), .own 47 v'])))):s_visitA.pt d [.bptr id b 0,P,L] H K:=by
 refine⟨id,b,⟨leaf,v,out⟩,(p,l), [P,L],rfl,?_,h0,?_,by simpa [fndB]using hid,⟨n,h⟩,λr y j=>?_⟩
 ·rw[qih,s,t];rfl
 ·intro q j;simp at j;subst j;exact k
 ·exact u r.leaf r.v r.out j
def L9:∀(ks:List Pat) (n:Int),(1<=n\/ks≠ []/\0<=n)->(∀k∈ks,1<=kg k)->1<=fH ks n
 | [],n,h,_=>by rw[fH];rcases h with h|h;exact h;exact absurd rfl h.1
 | k::ks,n,h,hk=>by
   rw[fH];have:=hk k (by simp);exact L9 ks _ (.inl (by rcases h with h|h<;>omega)) λx a=>hk x (by simp[a])
def qcA{v:B->Bool}(p:Pat):fJ v p=true->1<=kg p:=by
 induction p using eb with|_ p a=>?_
 intro h;have hn:=(eJ h).2.2;unfold nL at hn;rw[decide_eq_true_eq]at hn;rw[uj,FN];by_cases h0:p.kids=[]
 ·rw[if_pos h0];omega
 ·rw[if_neg h0];have:=L9 p.kids 0 (.inr ⟨h0,qDe _⟩) λk hk=>a k hk (eW h hk)
  generalize fH p.kids 0=n at this;split
  ·rename_i h6;have hn:=hn h6;split
   ·have:=Int.mul_le_mul this (show(1:Int)<=p.mn+1 by omega) (by omega) (by omega);omega
   ·split
    ·exact this
    ·have:=Int.mul_le_mul this (show(1:Int)<=p.mx by omega) (by omega) (by omega);omega
  ·exact this
abbrev FS:Spc:=YL
abbrev qg:Spc:=aJ (a1 Pat) Ho (enc (X:=List Span)) rK
theorem HN(h1:S tP=FS)(h2:S aI=s_visitA)(h3:S gu=s_SortFunc_Source)(h4:S eN=xZ):
 aq pU ot S (a1 Pat) Ho (enc (X:=List Span)) rK:=by
 rintro p ⟨q,t⟩;simp[pU,ot,h1, -Bool.forall_bool];have c:¬(fJ aK p=true/\kg p<=256)->Fin enc (rK p) (D.v (Value.slice none 0 0)) λx=>none:=λh=>bF [] (by simp) (by unfold rK;rw[if_neg h])
 rcases hb:fJ aK p
 ·simp;exact c (by rw[hb];simp)
 have k:=qcA p hb;simp;refine⟨λ_=>⟨λh=>c (by omega),λd=>?_⟩,λh=>by omega⟩;have u:∀y,SrcsOf p y->rK p y:=λy w=>by unfold rK;rw[if_pos ⟨hb,d⟩];exact w
 clear c;refine fE (X:=Nat) [1] [] [] [] (λ_=>True) (λb=>[(4, .bptr 14 b 0)]) (λb=>[(14, .box b [.v (.int .i64 0), .own 47 (.slice none 0 0)]),(47, .row (.slice none 0 0) bI 2 [])]) [14,47] (λ_=>rfl) (by decide) ?_ ?_
 ·simp;refineλb=>⟨b, .same _, .inl ?_,by simp[isNilRow]⟩
  simp;exact .nilown 47
 ·rintro b -;simp[h2];refine Yk (n:=cM p) (p:=p) (l:=[0]) (leaf:=0) (v:= .slice none 0 0) (out:=[]) (by decide) ?_ ?_ ?_ ?_ ⟨⟨qCj _,hb⟩,qDe _,by show(0:Int) + (ff p:Int)<=_;omega,by simp;omega,λa h=>by simp at h;subst h;show 0<=(0:Int)/\(0:Int) +200000* (ff p:Int)<=_;omega⟩ ?_
  ·simp
  ·simp
  ·simp
  ·simp
  rintro leaf v out ⟨c1,c2,c3⟩;simp only at c1 c2 c3;simp at c2;simp[h3,h4];have A:qbZ (.clo fw [],()) out:=⟨rfl,by omega⟩
  refine⟨A,λr j=>⟨by have:=j.1;omega,λv'=>bF (vP r) (gp bI (by simp)) (u _ ⟨qle j.2.2,λs=>?_⟩)⟩⟩;rw[Xt,j.2.1 s,c3 s];simp
end
section
open Cod (enc dec)
open Go.Proofs Go.Sort Go.Shelf Go.Lib Go.RowKit
variable {dq:Prop}
section
variable {P:Program}{ρ:Ren}
theorem UB{A:Nat}(L:SlLaysN.n53 P ρ)(hf:ρ.f 53=A)(ef:dj P A):Tri dq P A s_Sort_int.pt:=by
 subst hf;have hev:∀x:Int,enc x=D.v (.int .i64 x):=λ_=>rfl
 intro O tp w vs ds H d K hO' htl p hlen C hA;obtain⟨id,v,l,ds',x,rfl,hd,hid,hl5,hK⟩:=hA;have hds:ds'=[]:=by
  match ds',hd with
  | [],h=>rfl
  |a::r,h=>cases h
 subst hds
 match vs,hlen,C with
 | [v0],_,C=>
 have e0:v0=v:=by
  have:=C 0 v0 _ rfl rfl;cases this;rfl
 subst e0;refine⟨ef,?_⟩;obtain⟨xs,⟨hxl,hx⟩,hkn,Q⟩:=p.ok id _ hid;rcases hx with⟨rfl,h0⟩|⟨gb,cap,cur,rfl,_,S,hcap,hcapm,hsz,I⟩
 ·have hl0:l=[]:=by simpa using h0
  subst hl0;refine(AnyG.slices_Sort_int_none L none 0 w).mono ?_;rintro e w' ⟨rfl,rfl⟩;have hH:ai H id (some (.row (.slice none 0 0) bE 1 (([]:List Int).map enc)))=H:=by
   funext i;simp only[ai];by_cases hi:i=id
   ·subst hi;simp[hid]
   ·simp[hi]
  refine⟨_,_,_,tp,rfl,hK [] (by simp),λb h=>h,λb h=> .inl h,htl.1, .refl _ _ _,λb h=> .inl (by rwa [hH]at h),by rw[hH];exact p, .tup [] [] rfl (λk x c h=>by simp at h)⟩
 ·have hll:(l.map (enc (X:=Int))).length=l.length:=by simp
  rw[hll]at hcap hxl I ⊢;have hval:∀(j:Nat) (y v':Value),xs[j]? =some y->(ba (l.map enc))[j]? =some (.v v')->y=v':=λj y v' h1 h2=>((Q j y _ h1 h2).2).inv_v
  have Y:∀l:List Int,ba (l.map enc)=(l.map (Value.int .i64)).map D.v:=λl=>by
   unfold ba;rw[List.flatMap_map,List.map_map]
   induction l with
   |nil=>rfl
   |cons a l ih=>rw[qC9,qCW,ih];rfl
  have hxs:xs=l.map (Value.int .i64):=by
   apply qCP;intro j;by_cases hj:j<l.length
   ·have e1:xs[j]? =some xs[j]:=qCe (by omega);have e2:(l.map (Value.int .i64))[j]? =some (.int .i64 l[j]):=by simp[hj]
    rw[e1,e2];congr 1;refine hval j _ _ e1 ?_;rw[Y,qCu,e2];rfl
   ·rw[qCz (by omega),qCz (by simp;omega)]
  have hcur:∀j,j<l.length->cur[j]? =(l.map (Value.int .i64))[j]?:=λj hj=>by
   rw[<-hxs,<-I,qCv,if_pos (by omega),qCA]
  have hgs:gb<w.heap.size:=(qCp.1 S).1;have hH:Holds (Value.int .i64) w gb 0 l.toArray:=by
   intro j hj;have hj':j<l.length:=by simpa using hj
   refine⟨?_,zB S⟩;rw[EP S,qCR,hcur j hj',getElem!_pos _ j hj];simp[hj']
  have J:=AnyG.slices_Sort_int L gb 0 cap l w hH hgs (by omega);refine J.mono ?_;rintro e w' ⟨rfl,n,os,F⟩;have Z:∀x,x∈l.mergeSort (λx y=>decide (x<=y)) ↔x∈l:=λx=>List.mem_mergeSort
  have q:(l.mergeSort λx y=>decide (x<=y)).length=l.length:=by simp
  generalize hl':(l.mergeSort λx y=>decide (x<=y))=l' at F Z q;have U:∀b,b<w.heap.size->b≠gb->w'.heap[b]? =w.heap[b]?:=λb hb hne=>by
   rw[F];exact Cs (w:=Sort.ahead w n) hb hne
  have hthis:w'.heap[gb]? =some (.cells (putCells (Value.int .i64) 0 l'.toArray cur) bE (0,0)):=by
   rw[F];exact Mz (w:=Sort.ahead w n) S
  have hws:w.heap.size<=w'.heap.size:=by
   rw[F];simp[grow,putRow,mapBlock,Sort.ahead]
  have W:w'.os=w.os/\w'.tape=w.tape/\w'.output=w.output/\w.drawn<=w'.drawn:=by
   rw[F];exact⟨rfl,rfl,rfl,Nat.le_add_right _ _⟩
  clear F J;have hbo:(Res.row (.slice (some ⟨gb,0,none⟩) l.length cap) bE 1 (l.map (enc (X:=Int)))).blk=some gb:=rfl;have t:H id=some (.row (.slice (some ⟨gb,0,none⟩) l.length cap) bE 1 (l.map enc)):=by rw[hid,hll]
  have M:bz H gb:=⟨id,_,t,hbo⟩
  have htp:∀b,tp b->b≠gb:=λb hb e=>(p.out id _ gb t hbo).2 (e ▸hb)
  have E:∀b,tp b->TapeStep w w' b:=λb hb=> .same (U b (htl.1 b hb) (htp b hb))
  have hK':=hK l' ⟨q,Z⟩;rw[hll]at hK';generalize hH2:ai H id (some (.row (.slice (some ⟨gb,0,none⟩) l.length cap) bE 1 (l'.map enc)))=H2 at hK';have N:∀b,bz H2 b->bz H b:=λb ⟨i,r,h1,h2⟩=>by
   rw[<-hH2]at h1;simp only[ai]at h1;split at h1
   ·cases h1;cases h2;exact M
   ·exact⟨i,r,h1,h2⟩
  have hmove:∀y c,R tp (aN O tp H w) w y c->R tp (aN O tp H2 w') w' y c:=λy c hr=>hr.mono (λ_ h=>h) (λb hb=>⟨⟨qCt hb.1 hws,hb.2.1,hb.2.2.1,λh=>hb.2.2.2 (N b h)⟩,U b hb.1 (λe=>hb.2.2.2 (e ▸M))⟩) E
  have u:∀i r,H2 i=some r->(i=id/\r= .row (.slice (some ⟨gb,0,none⟩) l.length cap) bE 1 (l'.map enc))\/(i≠id/\H i=some r):=λi r h=>by
   rw[<-hH2]at h;simp only[ai]at h;split at h
   ·rename_i e;cases h;exact .inl ⟨e,rfl⟩
   ·rename_i e;exact .inr ⟨e,h⟩
  refine⟨_,_,H2,tp,rfl,hK',λb h=>h,λb h=> .inl h,λb hb=>qCt (htl.1 b hb) hws,⟨W.1,W.2.1,W.2.2.1,hws,λb hb ho ht=>U b hb (λe=>ho (e ▸M)),E,λ_=>W.2.2.2⟩,λb h=> .inl (N b h),⟨?_,?_,?_⟩, .tup [] [] rfl (λk x c h=>by simp at h)⟩
  ·intro i j r s b h1 h2 h3 h4;rcases u i r h1 with⟨rfl,rfl⟩|⟨n1,k1⟩
   ·rcases u j s h2 with⟨rfl,rfl⟩|⟨n2,k2⟩
    ·rfl
    ·exact p.dis _ j _ s b t k2 h3 h4
   ·rcases u j s h2 with⟨rfl,rfl⟩|⟨n2,k2⟩
    ·exact p.dis i _ r _ b k1 t h3 h4
    ·exact p.dis i j r s b k1 k2 h3 h4
  ·intro i r b h1 h2;rcases u i r h1 with⟨rfl,rfl⟩|⟨n1,k1⟩
   ·exact p.out _ _ b t h2
   ·exact p.out i r b k1 h2
  ·intro i r h1;rcases u i r h1 with⟨rfl,rfl⟩|⟨n1,k1⟩
   ·have hps:(putCells (Value.int .i64) 0 l'.toArray cur).size=cur.size:=by simp[putCells]
    refine⟨l'.map (Value.int .i64),⟨by simp, .inr ⟨gb,cap,_,by simp[q],qCC _,hthis,by simp;omega,hcapm,by rw[hps,hsz],?_⟩⟩,λd hd=>?_,λj y c h1 h2=>?_⟩
    ·simp only[qC6,q];apply qCP;intro j;rw[qCv];by_cases hj:j<l.length
     ·have hjc:j<cur.size:=by omega
      have hjf:j<l'.toArray.size:=by simp[q];exact hj
      have hjl:j<l'.length:=by omega
      rw[if_pos (by omega),qCA];simp only[putCells,Array.getElem?_mapIdx,qCQ hjc,qDK,qCC,qCR,hjf,and_self,if_true,Nat.sub_zero];rw[getElem!_pos _ j hjf];simp[hjl]
     ·rw[if_neg (by omega),qCz (by simp;omega)]
    ·obtain⟨z,_,rfl⟩:=qCo.1 hd;exact⟨Cod.kn z,Cod.wid z⟩
    ·rw[Y,qCu,h1]at h2;cases h2;obtain⟨z,_,rfl⟩:=qCo.1 (qCg h1);exact⟨rfl, .v _ rfl (λs h=>by cases h)⟩
   ·have hne:∀b,r.blk=some b->b≠gb:=λb hb e=>n1 (p.dis i id r _ gb k1 t (e ▸hb) hbo)
    exact(p.ok i r k1).conv hmove (λb hb=>U b ((p.ok i r k1).lt hb) (hne b hb))
end
end
end Go.Gv
namespace Go.Proofs
open Go.Shelf
def Tryz.sortSource_ren:Go.Shelf.Ren:=⟨λ|6=>29|15=>84|14=>83|28=>144|29=>145|20=>136|21=>137|22=>138|23=>139|24=>140|25=>141|26=>142|27=>143|46=>202|47=>203|48=>204|49=>205|50=>206|57=>249|n=>n,λ|22=>53|24=>56|25=>94|3=>3|39=>164|0=>0|53=>208|55=>210|4=>4|46=>201|45=>200|50=>205|5=>5|9=>9|66=>248|70=>252|76=>285|77=>158|n=>n,λ|n=>n⟩
theorem Tryz.sortSource:Go.Proofs.SlLaysF0.n6 Tryz.prog Tryz.sortSource_ren:={
 mixed:=by kernel_rfl
 f6:=⟨Tryz.f29.name,by decide,Tryz.func29.trans (congrArg some (by kernel_rfl))⟩
 f14:=⟨Tryz.f83.name,by decide,Tryz.func83.trans (congrArg some (by kernel_rfl))⟩
 f15:=Tryz.func84.trans (congrArg some (by kernel_rfl))
 f20:=⟨Tryz.f136.name,by decide,Tryz.func136.trans (congrArg some (by kernel_rfl))⟩
 f21:=⟨Tryz.f137.name,by decide,Tryz.func137.trans (congrArg some (by kernel_rfl))⟩
 f22:=⟨Tryz.f138.name,by decide,Tryz.func138.trans (congrArg some (by kernel_rfl))⟩
 f23:=⟨Tryz.f139.name,by decide,Tryz.func139.trans (congrArg some (by kernel_rfl))⟩
 f24:=⟨Tryz.f140.name,by decide,Tryz.func140.trans (congrArg some (by kernel_rfl))⟩
 f25:=⟨Tryz.f141.name,by decide,Tryz.func141.trans (congrArg some (by kernel_rfl))⟩
 f26:=⟨Tryz.f142.name,by decide,Tryz.func142.trans (congrArg some (by kernel_rfl))⟩
 f27:=⟨Tryz.f143.name,by decide,Tryz.func143.trans (congrArg some (by kernel_rfl))⟩
 f28:=Tryz.func144.trans (congrArg some (by kernel_rfl))
 f29:=Tryz.func145.trans (congrArg some (by kernel_rfl))
 f46:=⟨Tryz.f202.name,by decide,Tryz.func202.trans (congrArg some (by kernel_rfl))⟩
 f47:=Tryz.func203.trans (congrArg some (by kernel_rfl))
 f48:=Tryz.func204.trans (congrArg some (by kernel_rfl))
 f49:=⟨Tryz.f205.name,by decide,Tryz.func205.trans (congrArg some (by kernel_rfl))⟩
 f50:=⟨Tryz.f206.name,by decide,Tryz.func206.trans (congrArg some (by kernel_rfl))⟩
 f57:=⟨Tryz.f249.name,by decide,Tryz.func249.trans (congrArg some (by kernel_rfl))⟩
 t0:=Tryz.underlying0
 a0:=Tryz.isAgg0
 z0:=Tryz.sizeOf0
 v0:=Tryz.zeroValue0
 t3:=Tryz.underlying3
 a3:=Tryz.isAgg3
 z3:=Tryz.sizeOf3
 v3:=Tryz.zeroValue3
 t4:=Tryz.underlying4
 a4:=Tryz.isAgg4
 z4:=Tryz.sizeOf4
 v4:=Tryz.zeroValue4
 t5:=Tryz.underlying5
 a5:=Tryz.isAgg5
 z5:=Tryz.sizeOf5
 v5:=Tryz.zeroValue5
 t9:=Tryz.underlying9
 a9:=Tryz.isAgg9
 z9:=Tryz.sizeOf9
 v9:=Tryz.zeroValue9
 t22:=Tryz.underlying53
 a22:=Tryz.isAgg53
 z22:=Tryz.sizeOf53
 v22:=Tryz.zeroValue53
 t25:=Tryz.underlying94
 a25:=Tryz.isAgg94
 z25:=Tryz.sizeOf94
 v25:=Tryz.zeroValue94
 t39:=Tryz.underlying164
 a39:=Tryz.isAgg164
 z39:=Tryz.sizeOf164
 v39:=Tryz.zeroValue164
 t45:=Tryz.underlying200
 a45:=Tryz.isAgg200
 z45:=Tryz.sizeOf200
 v45:=Tryz.zeroValue200
 t46:=Tryz.underlying201
 a46:=Tryz.isAgg201
 z46:=Tryz.sizeOf201
 v46:=Tryz.zeroValue201
 t50:=Tryz.underlying205
 a50:=Tryz.isAgg205
 z50:=Tryz.sizeOf205
 v50:=Tryz.zeroValue205
 t53:=Tryz.underlying208
 a53:=Tryz.isAgg208
 z53:=Tryz.sizeOf208
 v53:=Tryz.zeroValue208
 t55:=Tryz.underlying210
 a55:=Tryz.isAgg210
 z55:=Tryz.sizeOf210
 v55:=Tryz.zeroValue210
 t66:=Tryz.underlying248
 a66:=Tryz.isAgg248
 z66:=Tryz.sizeOf248
 v66:=Tryz.zeroValue248
 t70:=Tryz.underlying252
 a70:=Tryz.isAgg252
 z70:=Tryz.sizeOf252
 v70:=Tryz.zeroValue252
 t76:=Tryz.underlying285
 a76:=Tryz.isAgg285
 z76:=Tryz.sizeOf285
 v76:=Tryz.zeroValue285
 t77:=Tryz.underlying158
 a77:=Tryz.isAgg158
 z77:=Tryz.sizeOf158
 v77:=Tryz.zeroValue158 }
def Tryz.sortInt_ren:Go.Shelf.Ren:=⟨λ|53=>134|64=>84|63=>201|78=>144|79=>145|70=>240|71=>241|72=>242|73=>243|74=>244|75=>245|59=>246|76=>247|77=>248|88=>267|89=>203|90=>204|91=>268|92=>269|68=>146|96=>282|n=>n,λ|22=>22|23=>3|3=>3|51=>164|0=>0|67=>208|69=>210|4=>4|61=>201|60=>200|44=>205|5=>5|9=>9|75=>248|79=>252|83=>285|84=>158|n=>n,λ|n=>n⟩
theorem Tryz.sortInt:Go.Proofs.SlLaysN.n53 Tryz.prog Tryz.sortInt_ren:={
 mixed:=by kernel_rfl
 f53:=⟨Tryz.f134.name,by decide,Tryz.func134.trans (congrArg some (by kernel_rfl))⟩
 f59:=⟨Tryz.f246.name,by decide,Tryz.func246.trans (congrArg some (by kernel_rfl))⟩
 f63:=⟨Tryz.f201.name,by decide,Tryz.func201.trans (congrArg some (by kernel_rfl))⟩
 f64:=Tryz.func84.trans (congrArg some (by kernel_rfl))
 f68:=⟨Tryz.f146.name,by decide,Tryz.func146.trans (congrArg some (by kernel_rfl))⟩
 f70:=⟨Tryz.f240.name,by decide,Tryz.func240.trans (congrArg some (by kernel_rfl))⟩
 f71:=⟨Tryz.f241.name,by decide,Tryz.func241.trans (congrArg some (by kernel_rfl))⟩
 f72:=⟨Tryz.f242.name,by decide,Tryz.func242.trans (congrArg some (by kernel_rfl))⟩
 f73:=⟨Tryz.f243.name,by decide,Tryz.func243.trans (congrArg some (by kernel_rfl))⟩
 f74:=⟨Tryz.f244.name,by decide,Tryz.func244.trans (congrArg some (by kernel_rfl))⟩
 f75:=⟨Tryz.f245.name,by decide,Tryz.func245.trans (congrArg some (by kernel_rfl))⟩
 f76:=⟨Tryz.f247.name,by decide,Tryz.func247.trans (congrArg some (by kernel_rfl))⟩
 f77:=⟨Tryz.f248.name,by decide,Tryz.func248.trans (congrArg some (by kernel_rfl))⟩
 f78:=Tryz.func144.trans (congrArg some (by kernel_rfl))
 f79:=Tryz.func145.trans (congrArg some (by kernel_rfl))
 f88:=⟨Tryz.f267.name,by decide,Tryz.func267.trans (congrArg some (by kernel_rfl))⟩
 f89:=Tryz.func203.trans (congrArg some (by kernel_rfl))
 f90:=Tryz.func204.trans (congrArg some (by kernel_rfl))
 f91:=⟨Tryz.f268.name,by decide,Tryz.func268.trans (congrArg some (by kernel_rfl))⟩
 f92:=⟨Tryz.f269.name,by decide,Tryz.func269.trans (congrArg some (by kernel_rfl))⟩
 f96:=⟨Tryz.f282.name,by decide,Tryz.func282.trans (congrArg some (by kernel_rfl))⟩
 t0:=Tryz.underlying0
 a0:=Tryz.isAgg0
 z0:=Tryz.sizeOf0
 v0:=Tryz.zeroValue0
 t3:=Tryz.underlying3
 a3:=Tryz.isAgg3
 z3:=Tryz.sizeOf3
 v3:=Tryz.zeroValue3
 t4:=Tryz.underlying4
 a4:=Tryz.isAgg4
 z4:=Tryz.sizeOf4
 v4:=Tryz.zeroValue4
 t5:=Tryz.underlying5
 a5:=Tryz.isAgg5
 z5:=Tryz.sizeOf5
 v5:=Tryz.zeroValue5
 t9:=Tryz.underlying9
 a9:=Tryz.isAgg9
 z9:=Tryz.sizeOf9
 v9:=Tryz.zeroValue9
 t22:=Tryz.underlying22
 a22:=Tryz.isAgg22
 z22:=Tryz.sizeOf22
 v22:=Tryz.zeroValue22
 t23:=Tryz.underlying3
 a23:=Tryz.isAgg3
 z23:=Tryz.sizeOf3
 v23:=Tryz.zeroValue3
 t44:=Tryz.underlying205
 a44:=Tryz.isAgg205
 z44:=Tryz.sizeOf205
 v44:=Tryz.zeroValue205
 t51:=Tryz.underlying164
 a51:=Tryz.isAgg164
 z51:=Tryz.sizeOf164
 v51:=Tryz.zeroValue164
 t60:=Tryz.underlying200
 a60:=Tryz.isAgg200
 z60:=Tryz.sizeOf200
 v60:=Tryz.zeroValue200
 t61:=Tryz.underlying201
 a61:=Tryz.isAgg201
 z61:=Tryz.sizeOf201
 v61:=Tryz.zeroValue201
 t67:=Tryz.underlying208
 a67:=Tryz.isAgg208
 z67:=Tryz.sizeOf208
 v67:=Tryz.zeroValue208
 t69:=Tryz.underlying210
 a69:=Tryz.isAgg210
 z69:=Tryz.sizeOf210
 v69:=Tryz.zeroValue210
 t75:=Tryz.underlying248
 a75:=Tryz.isAgg248
 z75:=Tryz.sizeOf248
 v75:=Tryz.zeroValue248
 t79:=Tryz.underlying252
 a79:=Tryz.isAgg252
 z79:=Tryz.sizeOf252
 v79:=Tryz.zeroValue252
 t83:=Tryz.underlying285
 a83:=Tryz.isAgg285
 z83:=Tryz.sizeOf285
 v83:=Tryz.zeroValue285
 t84:=Tryz.underlying158
 a84:=Tryz.isAgg158
 z84:=Tryz.sizeOf158
 v84:=Tryz.zeroValue158 }
end Go.Proofs
namespace Go.Gv
section
open Go.Proofs
open Cod (enc dec)
variable {S S0:Nat->Spc}
end
section
variable {dq:Prop}
open Cod (enc dec)
open Go.Proofs Go.Shelf Go.RowKit Go.Maps Go.Sort
section
variable {P:Program}{ρ:Ren}
end
end
section
open Cod (enc dec)
variable {S S0:Nat->Spc}
structure qtd (V:List Attr->Qry->Prop) (c:Corpus) (q:Qry):Prop where
 v:V c.attrs q
 pat:fJ aK q.pat=true
 size:kg q.pat<=256
 fx:Ho q.pat
 pl:qlE q.pat []
 few:c.toks.length<=100000
 sel:∀x∈am q.pat,qb0 (c,x.cond)
end
section
open Go.Proofs
open Cod (enc dec)
variable {S S0:Nat->Spc}
def Pr(c:Corpus)(q:Qry):List Int:=(am q.pat).map λx=>((U9 c x.cond).length:Int)

end
section
open Cod (enc dec)
open Go.Proofs Go.Sort Go.Shelf Go.Lib Go.RowKit
variable {dq:Prop}
section
variable {P:Program}{ρ:Ren}{X:Type}[Cod X][Inhabited X]
def qsX(g:Nat)(x:D×Unit)(l:List X):Prop:=x.1= .clo g []/\l.length<=100000
def qim(cf:X->X->Int)(_:D×Unit)(l r:List X):Prop:=r=l.mergeSort λx y=>!(ltOf cf) y x
theorem qhH(hTb:iU=[]){g:Nat}{cf:X->X->Int}(ev:X->List Value)(l:∀x,enc x=D.agg ((ev x).map D.v))(a:∀x,∀v∈ev x,v.oneCell'=true/\∀s,v= .string s->s.size<=maxLen)
 (A:Tri True P g (aJ (a2 X X) (λ_=>True) (enc (X:=Int)) λx y=>y=cf x.1 x.2).pt) (blk size k:Nat) (w:World):CmpLays P g #[] ev k cf blk 0 size w:=by
 intro m os C _ x y;generalize sortWorldK ev k w blk 0 m C os=W;have E:∀z,R (λ_=>False) (aN (λb=>b<W.heap.size) (λ_=>False) bV W) W (.agg (ev z).toArray) (enc z):=λz=>by
  rw[l z];refine .agg (ev z) _ (by simp) (λv q=>(a z v q).1) λj v c h1 h2=>?_
  rw[qCu]at h2;rw[h1]at h2;cases h2;exact .v v (a z v (qCg h1)).1 (a z v (qCg h1)).2
 obtain⟨_,hc⟩:=A (λb=>b<W.heap.size) (λ_=>False) W [.agg (ev x).toArray, .agg (ev y).toArray] [enc x,enc y] bV 0 (λr H'=>r=enc (cf x y)/\H'=bV) (λb h=>h) ⟨λb h=>h.elim,λp hp=>by grind⟩
  ⟨λi j r s b h=>by simp,λi r b h=>by simp_all,λi r h=>by simp_all⟩ rfl
  (λj v c h1 h2=>by
    grind)
  (by simp)
 refine hc.mono ?_;rintro e w' ⟨v,r,H',d,rfl,⟨rfl,rfl⟩,_,_,_,hs,_,_,q⟩;have t:v= .int .i64 (cf x y):=by
  have:R d (aN (λb=>b<W.heap.size) d bV w') w' v (.v (.int .i64 (cf x y))):=q;exact this.inv_v
 subst t;refine⟨rfl,w'.drawn -W.drawn,w'.heap.extract W.heap.size w'.heap.size,?_⟩;have u:w'.heap=W.heap++w'.heap.extract W.heap.size w'.heap.size:=by
  apply Array.ext_getElem?;intro b;by_cases hb:b<W.heap.size
  ·rw[qC0 hb];exact hs.same b hb (λ⟨i,r,h,_⟩=>by simp_all) (λh=>h)
  grind
 have h1:=hs.os;have h2:=hs.tape;have h3:=hs.output;have h4:=hs.drawn trivial;have h5:W.drawn+ (w'.drawn -W.drawn)=w'.drawn:=by omega
 cases w';grind [iU,D,Cod.enc,Tri,grow,World.drewN]
theorem RC(hTb:iU=[]){F g:Nat}{cf:X->X->Int}(L:SlLaysF0.n6 P ρ)(hf:ρ.f 6=F)(ev:X->List Value)(k el:Nat)(hk:∀x,(ev x).length=k)(Y:∀x,enc x=D.agg ((ev x).map D.v))
 (C:∀x,∀v∈ev x,v.oneCell'=true/\∀s,v= .string s->s.size<=maxLen) (aE:∀w,(isAgg (ρ.t 24)).run P w= .ok true w) (zE:∀w,(Go.sizeOf (ρ.t 24)).run P w= .ok k w)
 (hO:SWO (ltOf cf)) (hT:∀x y,(ltOf cf) x y=false->(ltOf cf) y x=false->x=y) (hg:Tri True P g (aJ (a2 X X) (λ_=>True) (enc (X:=Int)) λx y=>y=cf x.1 x.2).pt) (eg:dj P g) (ef:dj P F):
 Tri dq P F (qn8 (aD a0) (qsX g) (qim cf) el k).pt:=by
 subst hf;intro O tp w vs ds H d K hO' htl p hlen u hA;obtain⟨id,v,l,ds',x,rfl,hd,hid,⟨hx1,hl5⟩,hK⟩:=hA;have hds:ds'=[.clo g []]:=by
  match ds',hd with
  | [],h=>cases h
  | a::r,h=>
    rw[qig]at h
    match r,h with
    | [],h=>
      simp at h;grind
    |b::r,h=>cases h
 subst hds
 match vs,hlen,u with
 | [v0,fv],_,u=>
 have e0:v0=v:=by
  have:=u 0 v0 _ rfl rfl;cases this;rfl
 have e1:fv= .func (.func g) #[] #[]:=by
  have:=u 1 fv _ rfl rfl;cases this<;>grind
 subst e0;subst e1;refine⟨ef,?_⟩;obtain⟨xs,⟨hxl,hx⟩,hkn,Z⟩:=p.ok id _ hid;rcases hx with⟨rfl,h0⟩|⟨gb,cap,cur,rfl,_,hgb,hcap,hcapm,hsz,N⟩
 ·have hl0:l=[]:=by grind
  subst hl0;refine(AnyF.slices_SortFunc_none L none 0 _ w).mono ?_;rintro e w' ⟨rfl,rfl⟩;have hH:ai H id (some (.row (.slice none 0 0) el k (([]:List X).map enc)))=H:=by
   grind [ai]
  refine⟨_,_,_,tp,rfl,hK [] (by simp[qim]),λb h=>h,λb h=> .inl h,htl.1, .refl _ _ _,λb h=> .inl (by grind),by grind, .tup [] [] rfl (λk x c h=>by simp)⟩
 ·have hll:(l.map (enc (X:=X))).length=l.length:=by simp
  rw[hll]at hcap hxl N ⊢;have hval:∀(j:Nat) (y v':Value),xs[j]? =some y->(ba (l.map enc))[j]? =some (.v v')->y=v':=λj y v' h1 h2=>((Z j y _ h1 h2).2).inv_v
  have hfl:ba (l.map enc)=(l.flatMap ev).map D.v:=by
   unfold ba;rw[List.flatMap_map,List.map_flatMap];congr 1;funext z;rw[Y z];rfl
  have hfml:=II (f:=ev) (n:=k) (l:=l) (λx _=>hk x);have hxs:xs=l.flatMap ev:=by
   apply qCP;intro j;by_cases W:j<l.length*k
   ·have e1:xs[j]? =some xs[j]:=qCe (by omega);have e2:(l.flatMap ev)[j]? =some (l.flatMap ev)[j]:=qCe (by omega);rw[e1,e2];congr 1;refine hval j _ _ e1 ?_;rw[hfl,qCu,e2];rfl
   ·rw[qCz (by omega),qCz (by omega)]
  have hcur:∀j,j<l.length*k->cur[j]? =(l.flatMap ev)[j]?:=λj W=>by
   rw[<-hxs,<-N,qCv,if_pos W,qCA]
  have hgs:gb<w.heap.size:=(qCp.1 hgb).1;have hH:HoldsK ev k w gb 0 l.toArray:=by
   intro j W;have hj':j<l.length*k:=by simpa using W
   refine⟨?_,zB hgb⟩;rw[EP hgb,qCR,hcur j hj',<-zD ev k hk l,qCA,qCQ W,getElem!_pos _ j W];rfl
  have I:=AnyQ.slices_SortFunc_total L k aE zE ev hk (λx v hv=>(C x v hv).1) cf hO g #[] gb 0 cap l.toArray w eg (qhH hTb ev Y C hg gb _ k w) hH hgs (by simp;omega) hT;simp only[qDw]at I;refine I.mono ?_;rintro e w' ⟨rfl,n,os,M⟩;generalize hl':(l.mergeSort λx y=>!(ltOf cf) y x)=l' at M;have A:l'.length=l.length:=by rw[<-hl'];simp
  have hwo:∀b,b<w.heap.size->b≠gb->w'.heap[b]? =w.heap[b]?:=λb hb hne=>by
   rw[M];exact Cs (w:=Sort.ahead w n) hb hne
  have hthis:w'.heap[gb]? =some (.cells (putCells _root_.id 0 (flatK ev k l'.toArray) cur) el (0,0)):=by
   rw[M];exact Mz (w:=Sort.ahead w n) hgb
  have hws:w.heap.size<=w'.heap.size:=by
   rw[M];simp[sortWorldK,grow,putRowK,putRow,mapBlock,Sort.ahead]
  have hos:w'.os=w.os/\w'.tape=w.tape/\w'.output=w.output/\w.drawn<=w'.drawn:=by
   rw[M];exact⟨rfl,rfl,rfl,Nat.le_add_right _ _⟩
  clear M I;have hbo:(Res.row (.slice (some ⟨gb,0,none⟩) l.length cap) el k (l.map enc)).blk=some gb:=rfl;have q:H id=some (.row (.slice (some ⟨gb,0,none⟩) l.length cap) el k (l.map enc)):=by rw[hid,hll]
  have Q:bz H gb:=⟨id,_,q,hbo⟩
  have htp:∀b,tp b->b≠gb:=λb hb e=>(p.out id _ gb q hbo).2 (e ▸hb)
  have J:∀b,tp b->TapeStep w w' b:=λb hb=> .same (hwo b (htl.1 b hb) (htp b hb))
  have hK':=hK l' (by simp only[qim];rw[hl']);rw[hll]at hK';generalize hH2:ai H id (some (.row (.slice (some ⟨gb,0,none⟩) l.length cap) el k (l'.map enc)))=H2 at hK';have S:∀b,bz H2 b->bz H b:=λb ⟨i,r,h1,h2⟩=>by
   rw[<-hH2]at h1;simp only[ai]at h1;split at h1
   ·cases h1;cases h2;exact Q
   ·exact⟨i,r,h1,h2⟩
  have hmove:∀y c,R tp (aN O tp H w) w y c->R tp (aN O tp H2 w') w' y c:=λy c hr=>hr.mono (λ_ h=>h) (λb hb=>⟨⟨qCt hb.1 hws,hb.2.1,hb.2.2.1,λh=>hb.2.2.2 (S b h)⟩,hwo b hb.1 (λe=>hb.2.2.2 (e ▸Q))⟩) J
  have E:∀i r,H2 i=some r->(i=id/\r= .row (.slice (some ⟨gb,0,none⟩) l.length cap) el k (l'.map enc))\/(i≠id/\H i=some r):=λi r h=>by
   rw[<-hH2]at h;simp only[ai]at h;split at h
   ·rename_i e;cases h;exact .inl ⟨e,rfl⟩
   ·rename_i e;exact .inr ⟨e,h⟩
  refine⟨_,_,H2,tp,rfl,hK',λb h=>h,λb h=> .inl h,λb hb=>qCt (htl.1 b hb) hws,⟨hos.1,hos.2.1,hos.2.2.1,hws,λb hb ho ht=>hwo b hb (λe=>ho (e ▸Q)),J,λ_=>hos.2.2.2⟩,λb h=> .inl (S b h),⟨?_,?_,?_⟩, .tup [] [] rfl (λk x c h=>by simp at h)⟩
  ·intro i j r s b h1 h2 h3 h4;rcases E i r h1 with⟨rfl,rfl⟩|⟨n1,k1⟩
   ·rcases E j s h2 with⟨rfl,rfl⟩|⟨n2,k2⟩
    ·rfl
    ·exact p.dis _ j _ s b q k2 h3 h4
   ·rcases E j s h2 with⟨rfl,rfl⟩|⟨n2,k2⟩
    ·exact p.dis i _ r _ b k1 q h3 h4
    ·exact p.dis i j r s b k1 k2 h3 h4
  ·intro i r b h1 h2;rcases E i r h1 with⟨rfl,rfl⟩|⟨n1,k1⟩
   ·exact p.out _ _ b q h2
   ·exact p.out i r b k1 h2
  ·intro i r h1;rcases E i r h1 with⟨rfl,rfl⟩|⟨n1,k1⟩
   ·have U:=II (f:=ev) (n:=k) (l:=l') (λx _=>hk x);have hps:(putCells _root_.id 0 (flatK ev k l'.toArray) cur).size=cur.size:=by simp[putCells]
    refine⟨l'.flatMap ev,⟨by simp;rw[<-List.length_flatMap];exact U, .inr ⟨gb,cap,_,by simp[A],qCC _,hthis,by simp;omega,hcapm,by rw[hps,hsz],?_⟩⟩,λd hd=>?_,λj y c h1 h2=>?_⟩
    ·simp only[qC6,A];apply qCP;intro j;rw[qCv];by_cases W:j<l.length*k
     ·have hjc:j<cur.size:=by
       have:l.length*k<=cap*k:=qCE k hcap;omega
      have hjf:j<(flatK ev k l'.toArray).size:=by simp[A];exact W
      rw[if_pos W,qCA,<-zD ev k hk l',qCA];simp only[putCells,Array.getElem?_mapIdx,qCQ hjc,qDK,qCC,qCR,hjf,and_self,if_true,Nat.sub_zero,id_eq];rw[qCQ hjf,getElem!_pos _ j hjf]
     ·rw[if_neg W,qCz (by rw[U,A];omega)]
    ·obtain⟨z,_,rfl⟩:=qCo.1 hd;rw[Y z];exact⟨rfl,by simp[D.cells,hk]⟩
    ·have hfl':ba (l'.map enc)=(l'.flatMap ev).map D.v:=by
      unfold ba;rw[List.flatMap_map,List.map_flatMap];congr 1;funext z;rw[Y z];rfl
     rw[hfl',qCu,h1]at h2;cases h2;obtain⟨z,_,hz⟩:=qDq.1 (qCg h1);exact⟨(C z y hz).1, .v y (C z y hz).1 (C z y hz).2⟩
   ·have hne:∀b,r.blk=some b->b≠gb:=λb hb e=>n1 (p.dis i id r _ gb k1 q (e ▸hb) hbo)
    exact(p.ok i r k1).conv hmove (λb hb=>hwo b ((p.ok i r k1).lt hb) (hne b hb))
end
instance:Inhabited Span:=⟨⟨0,0⟩⟩
def qAW(s:Span):List Value:=[.int .i64 s.b, .int .i64 s.e]
theorem zx(x y:Span):ltOf AA x y=decide (Ql x y):=by
 unfold ltOf;have:=qhI x y;grind
def qm7:Go.Sort.SWO (ltOf AA) where
 irrefl x:=by grind [zx,Lh]
 trans x y z h1 h2:=by grind [zx,Qk]
 ntrans x y z h1 h2:=by grind [zx,Ql]
def UD{P:Program}{f:Nat}{X Y:Type}[Cod Y]{A:dN X}{pre j:X->List Y->Prop}{post k:X->List Y->List Y->Prop}{el n:Nat}(h:Tri dq P f (qn8 A pre post el n).pt)(h1:∀x l,j x l->pre x l)(h2:∀x l r,j x l->post x l r->k x l r):
 Tri dq P f (qn8 A j k el n).pt:=λO tp w vs ds H d K a b c e g ⟨id,v,l,p,x,s,t,u,q,y⟩=>h O tp w vs ds H d K a b c e g ⟨id,v,l,p,x,s,t,u,h1 x l q,λl' hp=>y l' (h2 x l l' q hp)⟩
open Go.Proofs Cod
def qoS{p:Cond}(h:dE p<=0):False:=by rw[Hl]at h;omega
def Jt:TQ dq kM xY:=
 ac (ag ae) Gf (Re)
def Yr:TQ dq uV FX:=
 ac (ag (aa Jt ae)) JK (Uk rfl)
def Ki:TQ dq cq um:=
 ac (ag (aa Jt (aa Yr ae))) yh (HG rfl rfl)
def Mx:∀n,TQ dq uR (qaj n)
 | 0=>bU λx h=>qoS h
 |n+1=>dc (ag (aa (Mx n) ae)) VP (λ_=>qCh rfl) (Yb n rfl)
def Yq:TQ dq uR qak:=
 ei (λn=>Mx n) (gh (λx _=>⟨dE x.1,qCj _⟩))
def Uy:TQ dq BO JB:=
 ac (ag (aa Yq ae)) Si (Ub rfl)
def F4:∀n,TQ dq pb (Vd n)
 | 0=>bU λx h=>qd6 h.1
 |n+1=>dc (ag (aa Uy (aa (F4 n) ae))) OX (λ_=>qCh rfl) (Q6 n rfl rfl)
def Rt:TQ dq pb PP:=
 ei (λn=>F4 n) (gh (λx h=>⟨cM x.1,qCj _,h⟩))
def JF:∀n,TQ dq sd (qan n)
 | 0=>bU λx h=>qd6 h
 |n+1=>dc (ag (aa Ki (aa (JF n) ae))) Sj (λ_=>qCh rfl) (Uc n rfl rfl)
def Uz:TQ dq sd Vg:=
 ei (λn=>JF n) (gh (λx _=>⟨cM x,qCj _⟩))
def Dl:∀n,TQ dq mC (PS n)
 | 0=>bU λx h=>qd6 h
 |n+1=>dc (ag (aa (Dl n) ae)) MH (λ_=>qCh rfl) (Ov n rfl)
def ON:TQ dq mC Me:=
 ei (λn=>Dl n) (gh (λx _=>⟨cM x,qCj _⟩))
def Kh:TQ dq sK fQ:=
 ac (ag (aa Rt (aa Uz (aa ON ae)))) Id (J2 rfl rfl rfl)
def F5:∀n,TQ dq iG (Wq n)
 | 0=>nO λd ds H K ⟨id,v,l,a,x,h1,h2,h3,h4,h5⟩=>qd6 h4.1
 |n+1=>yH (ag (aa (F5 n) ae)) Dp (by decide) (Q7 n rfl)
def A8:Tri dq Tryz.prog iG i_leavesA.pt:=ei (λn=>F5 n) λd ds H K ⟨id,v,l,a,x,h1,h2,h3,h4,h5⟩=>⟨cM x,id,v,l,a,x,h1,h2,h3,⟨qCj _,h4⟩,h5⟩
def Ru:Tri dq Tryz.prog iG s_leaves.pt:=LS (xU (ag (aa A8 ae)) Dp (λ_=>qCh rfl) (Ow rfl)) A8
def Rv:TQ dq zH FR:=
 ac (ag (aa Kh (aa Ru ae))) OY (Q8 rfl rfl)
def Rz:TQ dq tP FS:=
 ac (ag (aa ws (aa FA ae))) Pb (Ri rfl rfl)
def Yp:TQ dq EG Md:=
 ac (ag ae) VO (Ya)
def xP:TQ dq dU lq:=
 ac (ag ae) Gp (HM)
def A7:TQ dq ga Dk:=
 DX (ag ae) AI (λ_=>qCh rfl) (AY)
def xM:TQ dq eN xZ:=
 DX (ag ae) wM (λ_=>qCh rfl) (xI)
def DT:TQ dq fw D2:=
 ac (ag (aa pY (aa Hk ae))) ok_estimate_compare (DM rfl rfl)
theorem wq:Tri dq Tryz.prog gu s_SortFunc_Source.pt:=by
 have h:=RC (dq:=dq) (hTb:=rfl) (cf:=AA) (el:=bI) Tryz.sortSource rfl qAW 2 (λ_=>rfl) (λ_=>rfl) (λx v p=>by simp[qAW]at p;rcases p with rfl|rfl<;>exact⟨rfl,λs h=>by cases h⟩) Tryz.isAgg56 Tryz.sizeOf56
  qm7 (λx y h1 h2=>by rw[zx]at h1 h2;simp at h1 h2;rcases SC x y with h|h|h<;>first|exact h|exact absurd h h1|exact absurd h h2) DT ok_estimate_compare.enter (fT Tryz.func29 (by kernel_rfl) rfl)
 refine UD h (λx l hp=>hp) (λx l r hp d=>?_);have d:r=l.mergeSort λx y=>!(ltOf AA) y x:=d
 subst d;refine⟨by simp,λx=>by simp[List.mem_mergeSort],?_⟩;have:=List.pairwise_mergeSort (le:=λx y=>!(ltOf AA) y x) (λa b c h1 h2=>by simp only[zx]at*;simp at*;unfold Ql at*;omega) (λa b=>by simp only[zx];simp;unfold Ql;omega) l;refine qDy.2 λi j hi q k=>?_
 have h:=qDy.1 this i j hi q k;generalize (l.mergeSort λx y=>!(ltOf AA) y x)[i]=a at h ⊢;generalize (l.mergeSort λx y=>!(ltOf AA) y x)[j]=b at h ⊢;rw[zx]at h;simpa using h
def Fz:Tri dq Tryz.prog oW s_Sort_int.pt:=UB Tryz.sortInt rfl (fT Tryz.func134 (by kernel_rfl) rfl)
def HS:TQ dq gX qf:=
 ac (ag (aa Dg (aa xP (aa Fz (aa A7 ae))))) Gn (HL rfl rfl rfl rfl)
def yd:∀n,TQ dq aI (La n)
 | 0=>nO λd ds H K ⟨id,b,x,z,a,h1,h2,h3,h4,h5,hp,c⟩=>qd6 hp.1.1
 |n+1=>yI (by decide) (S:=FG [(gy,Ld),(dU,lq),(gX,qf),(aI,La n)]) (ag (aa Dg (aa xP (aa HS (aa (yd n) ae))))) wO (λ_=>qCh rfl) (HK n rfl rfl rfl rfl)
def xQ:Tri dq Tryz.prog aI s_visitA.pt:=ei (λn=>yd n) λd ds H K ⟨id,b,x,z,a,h1,h2,h3,h4,h5,⟨n,hp⟩,c⟩=>⟨n,id,b,x,z,a,h1,h2,h3,h4,h5,hp,c⟩
def xR:TQ dq lB qg:=
 ac (ag (aa Rz (aa xQ (aa wq (aa xM ae))))) Gq (HN rfl rfl rfl rfl)
end
section
mutual
def srcL:Pat->Int->Int->List Span
 | .mk op _ _ _ mn _ ks,d,leaf=>if op=1 then[⟨leaf,d⟩]else if op=4 then UX ks d leaf else if op=6 then(match ks with|[]=>[]|k::_=>(List.range mn.toNat).flatMap λ(i:Nat)=>if i=0\/(bG k).1=(bG k).2 then srcL k (d+i* (bG k).1) leaf else[])else[]
def UX:List Pat->Int->Int->List Span
 | [],_,_=>[]
 |k::ks,d,leaf=>srcL k d leaf++if(bG k).1=(bG k).2 then UX ks (d+ (bG k).1) (leaf+ (am k).length)else[]
end
theorem qeO(p:Pat):∀(d leaf:Int) (s:Span),s∈srcL p d leaf↔SrcE p d leaf s:=by
 induction p using eb with|_ p j=>?_
 intro d leaf s;obtain⟨op,c,l,r,mn,mx,ks⟩:=p;simp only at j;rw[srcL.eq_def,SrcE.eq_def];simp only;split
 ·simp
 ·split
  ·have:∀a:List Pat,(∀k∈a,k∈ks)->∀d leaf:Int,s∈UX a d leaf↔xy a d leaf s:=by
    intro a
    induction a with
    |nil=>intro _ d leaf;rw[UX,xy];simp
    | cons k a q=>
      intro hk d leaf;rw[UX,xy,qCk,j k (hk k (by simp))];refine or_congr_right ?_;split
      ·rename_i h;rw[q (λz hz=>hk z (by simp[hz]))];exact⟨λb=>⟨h,b⟩,λb=>b.2⟩
      ·rename_i h;exact⟨λb=>by simp at b,λb=>absurd b.1 h⟩
   exact this ks (λ_ h=>h) d leaf
  ·split
   ·split
    ·simp
    ·rename_i k a;rw[qDq];constructor
     ·rintro⟨i,hi,hs⟩;split at hs
      ·rename_i t;rw[j k (by simp)]at hs;rw[qDA]at hi;exact⟨i,by omega,by omega,t.imp (λh=>by omega) id,hs⟩
      ·simp at hs
     ·rintro⟨i,h0,h1,h2,h3⟩;refine⟨i.toNat,by rw[qDA];omega,?_⟩;rw[if_pos (h2.imp (λh=>by omega) id),j k (by simp),show((i.toNat:Nat):Int)=i by omega];exact h3
   ·simp
def qcv{p:Pat}{l:List Span}(h:SS l)(h1:∀s,s∈l↔s∈srcL p 0 0):SrcsOf p l:=⟨h,λs=>(h1 s).trans (qeO p 0 0 s)⟩
end
end Go.Gv
