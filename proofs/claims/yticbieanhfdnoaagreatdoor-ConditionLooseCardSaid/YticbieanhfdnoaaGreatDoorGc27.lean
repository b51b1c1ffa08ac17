/- A part of the framework and of the walks: T19 W15 T20 W16 T21 W18 W9 W19 Asm. -/
import Derived.Test.YticbieanhfdnoaaGreatDoorGc26
import Derived.Test.YticbieanhfdnoaaGreatDoorGc23
import Derived.Test.YticbieanhfdnoaaGreatDoorGc24
set_option linter.unusedSimpArgs false
set_option linter.unusedVariables false
set_option maxRecDepth 100000

namespace Go.Gv
section
variable {X Y:Type}
def Rn (cf:Y→List D) (b:Nat) (post:Y→Prop) (r:D) (H:aa):Prop:= ∃y cs,r= .tup []∧H 1=some (.box b cs)∧FzL (Qh 1 [] H) cs (cf y)∧post y
def Fn (cc:CC) (rs:List au) (S:Nat→Spc) (ce:X→List D) (cf:Y→List D) (pre:X→Prop) (post:X→Y→Prop):Prop:=
 ∀L b x,pre x→vc S cc (oJ rs fun r H'=> Rn cf b (post x) r H') (dC [.tape L, .bptr 1 b 0]) (aj df 1 (some (.box b (ce x))))
variable {P:Program} {S:Nat→Spc} {f:Nat} {im:List Nat} {cc:CC} {rs:List au} {N:Nat}
theorem yh {ce:X→List D} {cf:Y→List D} {pre:X→Prop} {post:X→Y→Prop} (hS: ∀f,Tri P f (S f).pt) (h:ay P f im cc rs N) (hN:2≤N) (hw:Fn cc rs S ce cf pre post):Tri P f (YI ce cf pre post).pt:=by
 obtain⟨qn,enter,fn,code,h1,h2,h3,h4,h5⟩:=h
 refine Ib hS qn h1 h2 enter h3 h4 h5 ?_
 rintro ds H d K ⟨L,id,b,x,rfl,hid,hp,hK⟩
 refine⟨hN, [.tape L, .bptr 1 b 0],aj df 1 (some (.box b (ce x))),fun _=> id, .cons (.same _) (.cons (.bptr _ _ _ _) .nil),fun i r h=> ?_,fun i j r s h h' _=> ?_,_,hw L b x hp,?_⟩
 ·by_cases e:i=1
  ·subst e
   simp only[aj,if_true] at h
   cases h
   exact hid
  ·simp[aj,e,df] at h
 ·have a:i=1:=by
   by_cases e:i=1
   ·exact e
   ·simp[aj,e,df] at h
  have b:j=1:=by
   by_cases e:j=1
   ·exact e
   ·simp[aj,e,df] at h'
  exact a.trans b.symm
 ·rintro r H' ⟨y,cs,rfl,hj,hz,hpost⟩
  have hW:=P7 (H:=H') 1 b cs (cf y) [] hj hz.get.1 hz.get.2
  have hj:left 1 b (cf y) [] H' 1=some (.box b (cf y)):=rfl
  refine⟨.tup [],left 1 b (cf y) [] H',df,aj H id (some (.box b (cf y))),fun i=> if i=id then some 1 else none,hW, .same _,fun j q h=> by simp[df] at h,hK y hpost,fun i s hi=> ?_,fun i j' k s q hi hj' e1 e2=> ?_⟩
  ·by_cases e:i=id
   ·subst e
    simp only[aj,if_true] at hi
    cases hi
    simpa using hj
   ·simp only[aj,e,if_false] at hi ⊢
    exact⟨hi,fun k q h he=> e he.symm⟩
  ·have a:i=id:=by
    by_cases e:i=id
    ·exact e
    ·simp[e] at e1
   have b:j'=id:=by
    by_cases e:j'=id
    ·exact e
    ·simp[e] at e2
   exact a.trans b.symm
end
end Go.Gv

namespace Go.Gv
open Cod (enc dec)
variable {S S0:Nat→Spc}
theorem Pb:OL BF Au S:=by
 intro l
 simp[BF,Au, -List.map_take,rK,vC]
 omega
def Xs (c:Corpus):List D:= [enc c.attrs,enc c.toks,enc c.texts,enc c.regs, .v (.slice none 0 0), .v (.slice none 0 0), .v (.slice none 0 0)]
def PO (c:Corpus):List D:= [enc c.attrs,enc c.toks,enc c.texts,enc c.regs,enc c.nodes, .v (.slice none 0 0), .v (.slice none 0 0)]
def Vi (c:Corpus):List D:= [enc c.attrs,enc c.toks,enc c.texts,enc c.regs,enc c.nodes,enc c.heads,enc c.rels]
end Go.Gv

namespace Go.Gv
section
variable {S:Nat→Spc} {σ:Sg} {H:aa} {K:Ex→Sg→aa→Prop}
theorem tb {X:Type} (ks hk gv0 gv:List Nat) (rn0 rn:List (Nat×Nat)) (P:X→Prop) (sl:X→List (Nat×D)) (hp:X→List (Nat×Res)) (m:X→Nat) (x0:X) (ids:List Nat) (hids: ∀x,(hp x).map (·.1)=ids)
 (hi0:Ue rn0 (ids++hk) gv0∧ ∀i∈hk,i∉ids→LY rn0 i=i) (hi:Ue rn (ids++hk) gv∧ ∀i∈hk,i∉ids→LY rn i=i) {k:Nat} {b:CC} (h0:P x0)
 (hs:sX (IV gv0 H) (sl x0) σ) (hh:qS (IV gv0 H) rn0 (hp x0) H)
 (hr: ∀x,P x→vc S b (L6 P (fun y=> OZ σ H ks hk gv rn (sl y) (hp y)) m x K) (nK (sl x) (gY ks σ)) (eT (hp x) (iG hk H))):vc S (.loop k b) K σ H:=by
 rw[Fb]
 refine⟨⟨X,P,fun x=> nK (sl x) (gY ks σ),fun x=> eT (hp x) (iG hk H),m⟩,⟨x0,h0,wW (by rw[hids x0];exact hi0.1) (by rw[hids x0];exact hi0.2) hs (fun _ _=> rfl) hh (fun _ _=> rfl)⟩,fun x hx=> pK b _ _ (fun e σ' H' h=> ?_) (hr x hx)⟩
 cases e with
 | norm=>
   obtain⟨y,h1,h2,h3⟩:=h
   exact⟨y,h1,wW (by rw[hids y];exact hi.1) (by rw[hids y];exact hi.2) h2.1 h2.2.1 h2.2.2.1 h2.2.2.2,h3⟩
 | ex i=> exact h
 | ret=> exact h
end
end Go.Gv

namespace Go.Gv
open Cod (enc dec)
variable {S S0:Nat→Spc}
def F1 (l:List B):List D:=l.map enc
theorem F0 (a b:B):D.list 1 [.v (.string a), .v (.string b)]= .list 1 (F1 [a,b]):=id rfl
theorem Mv (a b c:B):D.list 1 [.v (.string a), .v (.string b), .v (.string c)]= .list 1 (F1 [a,b,c]):=id rfl
theorem lB (l:List B): (F1 l).length=l.length:=by simp[F1]
theorem nX (l:List B) (i:Nat) (d:D): ((F1 l)[i]?=some d)= ∃s,l[i]?=some s∧ .v (.string s)=d:=by
 simp[F1]
def OX (n:Nat) (ns:List pG):Prop:=(∀x∈ns,0≤x.b∧x.b≤n∧0≤x.e∧x.e≤n)∧ ∀ (j:Nat) (y:pG),ns[j]?=some y→y.par < j
def Fo (c c':Corpus):Prop:= ∃ns,c'= { c with nodes:=ns } ∧ns.length≤6∧OX c.toks.length ns
def tk (c:Corpus):Prop:=c.toks.length≤4096
theorem KH (h1:S ag=s_m_Next):Fn mi l5 S Xs PO tk Fo:=by
 intro L b c hc
 have hc:c.toks.length≤4096:=hc
 simp[mi,l5,h1,Xs]
 intro _ k hk0 hk1
 refine tb (X:=Int×Int×Value×List pG) [0,1,4] [] [] [] [] [] (fun x=> 0≤x.1∧x.1≤c.toks.length∧0≤x.2.1∧2*x.2.1+x.2.2.2.length≤6∧OX c.toks.length x.2.2.2) (fun x=> [(5,enc x.1),(6,enc x.2.1)]) (fun x=> [(1, .box b [enc c.attrs,enc c.toks,enc c.texts,enc c.regs, .own 61 x.2.2.1, .v (.slice none 0 0), .v (.slice none 0 0)]),(61, .row x.2.2.1 fb 4 (x.2.2.2.map enc))]) (fun x=> x.2.1.toNat) (0,k, .slice none 0 0, []) [1,61] (fun _=> rfl) (by decide) (by decide) ?_ ?_ ?_ ?_
 ·simp[OX];omega
 ·simp
 ·simp[isNilRow]
  exact .nilown 61
 ·rintro⟨at_,k,v,l⟩ ⟨q1,q2,q3,q4,q5⟩
  simp only at q1 q2 q3 q4 q5
  simp[h1,F0,lB,nX]
  have fin:Rn PO b (Fo c) (D.tup []) (aj (aj (aj (fun x=> none) 96 none) 61 (some (Res.row v fb 4 (List.map enc l)))) 1 (some (Res.box b [D.list 2 (List.map enc c.attrs),D.list 1 (List.map enc c.toks),D.list 4 (List.map enc c.texts),D.list 4 (List.map enc c.regs),D.own 61 v,D.v (Value.slice none 0 0),D.v (Value.slice none 0 0)]))):=by
   refine⟨{ c with nodes:=l },_,rfl,rfl,?_,⟨l,rfl,by omega,q5⟩⟩
   simp[PO]
   exact jQ fb rfl
  refine⟨fun hk=> ⟨fun hat y hy0 hy1=> ⟨by simp only[InR];omega,fun _=> fin,fun hb=> ⟨by simp only[InR];omega,by simp only[InR];omega,by omega,fun y1 hy1'=> ⟨by simp only[InR];omega,fun _ z hz0 hz1=> ⟨hz0,hz1,fun lb hlb=> ⟨by omega,by omega,fun v1=> ?_⟩⟩⟩⟩⟩,fun _=> fin⟩,fun _=> fin⟩
  have hb0:0≤at_+y:=by omega
  generalize at_+y=b' at*
  have he:b'+1+y1≤c.toks.length∧0≤y1:=by omega
  generalize hee:b'+1+y1=e' at*
  have ok1:OX c.toks.length (l++ [⟨lb,b',e', -1⟩]):=by
   refine⟨fun x hx=> ?_,fun j x hx=> ?_⟩
   ·rcases List.mem_append.1 hx with hx | hx
    ·exact q5.1 x hx
    ·simp at hx;subst hx;simp only;omega
   ·by_cases e:j < l.length
    ·rw[List.getElem?_append_left e] at hx;exact q5.2 j x hx
    ·rw[List.getElem?_append_right (by omega)] at hx
     have hx:=List.mem_of_getElem? hx
     simp at hx;subst hx;simp only;omega
  refine cS (X:=Value×List pG) [0,1,4,6,8] [] (fun x=> x.2.length≤l.length+2∧OX c.toks.length x.2) (fun _=> []) (fun x=> [(1, .box b [enc c.attrs,enc c.toks,enc c.texts,enc c.regs, .own 61 x.1, .v (.slice none 0 0), .v (.slice none 0 0)]),(61, .row x.1 fb 4 (x.2.map enc))]) ?_ ?_
  ·simp[h1,F0,lB,nX]
   refine fun u hu0 hu1=> ⟨fun _=> ⟨by simp only[InR];omega,by omega,fun y2 hy2=> ⟨by simp only[InR];omega,fun z2 hz20 hz21=> ⟨hz20,hz21,fun lb2 _=> ⟨by simp only[InR];omega,by simp only[InR];omega,by omega,fun y3 hy3=> ⟨by simp only[InR];omega,by omega,by omega,fun v2=> ⟨v2,l++ [⟨lb,b',e', -1⟩] ++ [⟨lb2,b'+y2,b'+y2+1+y3,l.length⟩],⟨by simp,?_⟩, .inl rfl, .inl ⟨rfl,by simp⟩⟩⟩⟩⟩⟩⟩,fun _=> ⟨v1,l++ [⟨lb,b',e', -1⟩],⟨by simp,ok1⟩, .inl rfl, .inl ⟨rfl,by simp⟩⟩⟩
   refine⟨fun x hx=> ?_,fun j x hx=> ?_⟩
   ·rcases List.mem_append.1 hx with hx | hx
    ·exact ok1.1 x hx
    ·simp at hx;subst hx;simp only;omega
   ·by_cases e:j < (l++ [(⟨lb,b',e', -1⟩:pG)]).length
    ·rw[List.getElem?_append_left e] at hx;exact ok1.2 j x hx
    ·rw[List.getElem?_append_right (by omega)] at hx
     have hx:=List.mem_of_getElem? hx
     simp at hx;subst hx;simp at e;simp only;omega
  ·rintro⟨v2,l2⟩ ⟨r1,r2⟩
   simp only at r1 r2
   simp
   exact⟨by simp only[InR];omega,e',k -1,v2,l2,⟨by omega,by omega,by omega,by omega,r2⟩,⟨⟨rfl,rfl⟩, .inl (.inl rfl), .inl (.inl rfl)⟩,by omega⟩
end Go.Gv

namespace Go.Gv
theorem L5 {σ:Sg} {H:aa} (t id:Nat) (x:Value) (el n:Nat) (es:List D) (h1:σ t= .own id x) (h2:H id=some (.row x el n es)):Wk σ H (upd σ t (.sub id x n 0 es.length)) H:=by
 intro E a w ⟨hd,hN,tp,hw,hr⟩
 refine⟨hd,hN,tp,hw,fun s=> ?_⟩
 unfold upd
 split
 ·rename_i e
  subst e
  have h3:=hr s
  rw[h1] at h3
  have e1:a.tmps.getD s undef=x:=by
   generalize a.tmps.getD s undef=y at h3
   cases h3;rfl
  obtain⟨xs,⟨_,h4⟩,_⟩:=hw.sat.ok id _ h2
  rw[e1]
  rcases h4 with⟨rfl,h5⟩ | ⟨g,cap,cur,rfl,_,_,h6,h7,_⟩
  ·rw[h5]
   exact .subnil id n
  ·exact .sub id g es.length cap n 0 es.length _ (Nat.zero_le _) (Nat.le_refl _) h6 h7 (fun _=> by simp)
 ·exact hr s
open Cod (enc dec) in
theorem Vm {X:Type} [Cod X] {H:aa} {id n hi:Nat} {v:Value} {l:List X} (el:Nat) (h:H id=some (.row v el n (l.map enc))) (hh:hi=l.length) (hn:n=Cod.wd X:=by rfl):FrzTo H (.sub id v n 0 hi) (.list n (l.map enc)):=by
 subst hh
 have e: ((l.map (enc (X:=X))).take l.length).drop 0=l.map enc:=by
  rw[List.drop_zero,List.take_of_length_le (by simp)]
 refine .sub h (by rw[e]) (fun d hd=> ?_) (fun k c c' h1 h2=> ?_)
 ·obtain⟨x,_,rfl⟩:=List.mem_map.1 hd
  exact⟨Cod.kn x,(Cod.wid x).trans hn.symm⟩
 ·rw[e,h2] at h1
  cases h1
  exact .same _
end Go.Gv

namespace Go.Gv
open Cod (enc dec)
variable {S S0:Nat→Spc}
def QP (n:Nat) (hs:List Int) (rs:List B):Prop:=hs.length=n∧rs.length=n∧ ∀h∈hs,h≤n
def KB (c c':Corpus):Prop:= ∃hs rs,c'= { c with heads:=hs,rels:=rs } ∧hs.length≤c.toks.length∧rs.length≤c.toks.length∧ ∀h∈hs,h≤c.toks.length
theorem KI (h1:S ag=s_m_Next):Fn ml l7 S PO Vi tk KB:=by
 intro L b c hc
 have hc:c.toks.length≤4096:=hc
 simp[ml,l7,h1,PO]
 intro _
 refine tb (X:=Int×List Int) [0,1,4] [1] [] [27] [] [] (fun x=> 0≤x.1∧x.1≤c.toks.length∧(x.2.length:Int)=x.1∧ ∀y∈x.2,0≤y∧y < c.toks.length) (fun x=> [(5,enc x.2),(6,enc x.1)]) (fun x=> []) (fun x=> c.toks.length -x.1.toNat) (0, []) [] (fun _=> rfl) (by decide) (by decide) ?_ ?_ ?_ ?_
 ·simp
 ·simp
 ·simp
 ·rintro⟨i,l⟩ ⟨q1,q2,q3,q4⟩
  simp only at q1 q2 q3 q4
  simp[h1]
  refine⟨fun hi=> ⟨by simp only[InR];omega,by omega,fun y hy=> ?_⟩,fun hi=> ?_⟩
  ·have e:List.take y.toNat (List.map enc l) ++D.v (.int .i64 i)::List.drop y.toNat (List.map enc l)=(l.take y.toNat++i::l.drop y.toNat).map enc:=by simp
   refine⟨by omega,by omega,by omega,by omega,by omega,by omega,by omega,by omega,by omega,by omega,fun v=> ⟨by simp only[InR];omega,i+1,l.take y.toNat++i::l.drop y.toNat,⟨by omega,by omega,?_,fun z hz=> ?_⟩,⟨?_,rfl⟩,by omega⟩⟩
   ·simp;omega
   ·rcases List.mem_append.1 hz with hz | hz
    ·exact q4 z (List.mem_of_mem_take hz)
    ·rcases List.mem_cons.1 hz with hz | hz
     ·omega
     ·exact q4 z (List.mem_of_mem_drop hz)
   ·rw[e]
    exact jQ cq (by simp[IV])
  ·have hil:l.length=c.toks.length:=by omega
   refine⟨by omega,by omega,fun v8=> ⟨by omega,by omega,fun v9=> ?_⟩⟩
   refine cS (X:=Bool×List Int×List B) [1] [1] (fun x=> QP c.toks.length x.2.1 x.2.2) (fun x=> [(8, .sub 40 v8 1 0 c.toks.length),(9, .sub 42 v9 1 0 c.toks.length),(10,enc x.1)]) (fun x=> [(40, .row v8 cq 1 (x.2.1.map enc)),(42, .row v9 ai 1 (x.2.2.map enc))]) ?_ ?_
   ·simp[-Bool.exists_bool]
    intro _
    refine CT ((L5 8 40 v8 cq 1 _ rfl rfl).trans (L5 9 42 v9 ai 1 _ rfl rfl)) ?_
    simp only[Ul]
    refine aq (X:=Bool×List Int×List B) [0,1,5,8,9,43] [1] l.length (fun _ x=> QP c.toks.length x.2.1 x.2.2) (fun x=> [(10,enc x.1)]) (fun x=> [(40, .row v8 cq 1 (x.2.1.map enc)),(42, .row v9 ai 1 (x.2.2.map enc))]) (false,List.replicate c.toks.length 0,List.replicate c.toks.length ⟨#[]⟩) (by simp) (by simp) (by omega) (by simp) (by simp) (by simp[QP]) (by simp) (by simp) ?_ ?_
    ·rintro k ⟨sm,hs,rs⟩ hk ⟨p1,p2,p3⟩
     simp only at p1 p2 p3
     obtain⟨x,hx⟩:=fE hk
     obtain⟨_,hgx⟩:=List.getElem?_eq_some_iff.1 hx
     have hxr:=q4 x (gu hx)
     simp[hk,hx,hgx, -Bool.exists_bool]
     refine⟨by omega,by omega,by omega,fun a ha=> ?_⟩
     have e1: (List.map enc hs).set x.toNat (D.v (Value.int .i64 (-1)))=(hs.set x.toNat (-1)).map enc:=gF hs _ _
     rw[e1]
     have p1': (hs.set x.toNat (-1)).length=c.toks.length:=by simp[p1]
     have p3': ∀h∈hs.set x.toNat (-1),h≤c.toks.length:=fun h hh=> by
      rcases List.mem_or_eq_of_mem_set hh with hh | hh
      ·exact p3 h hh
      ·omega
     generalize hs.set x.toNat (-1)=hs1 at p1' p3' ⊢
     clear p1 p3 ha e1
     refine cS (X:=List Int×List B) [0,1,5,8,9,10,12,43,44,45] [1] (fun x=> QP c.toks.length x.1 x.2) (fun _=> []) (fun x=> [(40, .row v8 cq 1 (x.1.map enc)),(42, .row v9 ai 1 (x.2.map enc))]) ?_ ?_
     ·simp[h1,Mv,lB,nX, -Bool.exists_bool]
      have hlx: ∀ (y:Int),hs1.length=c.toks.length→ ∃z,hs1[x.toNat]?=some z:=fun _ _=> fE (by omega)
      refine⟨fun hk0 y _ _=> ⟨fun _=> ⟨by omega,fun y2 hy2=> ⟨by omega,by omega,fun a ha y3 hy30 hy31=> ⟨hy30,hy31,fun s _=> ⟨by omega,by omega,by omega,fun z _=> ⟨by omega,by omega,by omega,fun z2 _=> ⟨hs1.set x.toNat a,rs.set x.toNat s,⟨by simp[p1'],by simp[p2],fun h hh=> ?_⟩, .inl (gF hs1 _ _), .inl (gF rs _ _)⟩⟩⟩⟩⟩⟩,fun _=> ⟨hs1,rs,⟨p1',p2,p3'⟩, .inl rfl, .inl rfl⟩⟩,fun _=> ⟨hs1,rs,⟨p1',p2,p3'⟩, .inl rfl, .inl rfl⟩⟩
      rcases List.mem_or_eq_of_mem_set hh with hh | hh
      ·exact p3' h hh
      ·have:=q4 a (gu ha)
       omega
     ·rintro⟨hs2,rs2⟩ ⟨r1,r2,r3⟩
      simp only at r1 r2 r3
      simp[-Bool.exists_bool]
      refine⟨fun _=> ⟨by omega,by omega,by omega,fun a _=> ⟨fun _=> ⟨by omega,by omega,by omega,fun a2 _=> ⟨!decide (a2=⟨#[]⟩),hs2,rs2,⟨r1,r2,r3⟩,by simp, .inl rfl, .inl rfl⟩⟩,fun _=> ⟨true,hs2,rs2,⟨r1,r2,r3⟩,by simp, .inl rfl, .inl rfl⟩⟩⟩,fun _=> ⟨true,hs2,rs2,⟨r1,r2,r3⟩,by simp, .inl rfl, .inl rfl⟩⟩
    ·rintro⟨sm,hs,rs⟩ ⟨p1,p2,p3⟩
     simp only at p1 p2 p3
     simp[-Bool.exists_bool]
     exact⟨sm,hs,rs,⟨p1,p2,p3⟩,rfl, .inl rfl, .inl rfl⟩
   ·rintro⟨sm,hs,rs⟩ ⟨p1,p2,p3⟩
    simp only at p1 p2 p3
    simp
    refine⟨fun _=> ⟨{ c with heads:=hs,rels:=rs },_,rfl,rfl,?_,⟨hs,rs,rfl,by omega,by omega,p3⟩⟩,fun _=> ⟨{ c with heads:= [],rels:= [] },_,rfl,rfl,?_,⟨[], [],rfl,by simp,by simp,by simp⟩⟩⟩
    ·simp[Vi]
     exact⟨Vm cq rfl p1.symm,Vm ai rfl p2.symm⟩
    ·simp[Vi]
end Go.Gv

namespace Go.Gv
open Cod (enc dec)
variable {S S0:Nat→Spc}
abbrev s_m_word:Spc:=cv (a1 Int) (fun n=> 0≤n∧n < 6) (enc (X:=B)) fun _ y=> y∈HH
theorem L8:aN xT xq S (a1 Int) (fun n=> 0≤n∧n < 6) (enc (X:=B)) fun _ y=> y∈HH:=by
 rintro n hn
 have hn:0≤n∧n < 6:=hn
 simp[xT,xq]
 refine⟨hn.1,hn.2,?_⟩
 have:n=0∨n=1∨n=2∨n=3∨n=4∨n=5:=by omega
 rcases this with rfl | rfl | rfl | rfl | rfl | rfl <;> simp[HH]
abbrev s_m_tag:Spc:=cv (a1 Int) (fun n=> 0≤n∧n < 2) (enc (X:=B)) fun _ y=> y∈OM
theorem Pa:aN BE At S (a1 Int) (fun n=> 0≤n∧n < 2) (enc (X:=B)) fun _ y=> y∈OM:=by
 rintro n hn
 have hn:0≤n∧n < 2:=hn
 simp[BE,At]
 refine⟨hn.1,hn.2,?_⟩
 have:n=0∨n=1:=by omega
 rcases this with rfl | rfl <;> simp[OM]
abbrev s_m_features:Spc:=cv (a1 Int) (fun n=> 0≤n∧n < 4) (enc (X:=B)) fun _ y=> y∈DM
theorem DW:aN o6 oz S (a1 Int) (fun n=> 0≤n∧n < 4) (enc (X:=B)) fun _ y=> y∈DM:=by
 rintro n hn
 have hn:0≤n∧n < 4:=hn
 simp[o6,oz]
 refine⟨hn.1,hn.2,?_⟩
 have:n=0∨n=1∨n=2∨n=3:=by omega
 rcases this with rfl | rfl | rfl | rfl <;> simp[DM]
abbrev s_m_Type:Spc:=cv (a1 Int) cd (enc (X:=B)) lz
theorem L9 (h1:S jn=s_m_Mod):aN pz pg S (a1 Int) cd (enc (X:=B)) lz:=by
 rintro n -
 simp[pz,pg,h1]
 have h3:=AP n 3 (by omega)
 refine⟨h3.1,h3.2,?_⟩
 have:xE n 3=0∨xE n 3=1∨xE n 3=2:=by omega
 rcases this with h | h | h <;> simp[h]
abbrev s_m_Attributes:Spc:=cv a0 cd (enc (X:=List Attr)) (fun _ l=> Rm l)
theorem zE:aN mq l8 S a0 cd (enc (X:=List Attr)) (fun _ l=> Rm l):=by
 rintro x -
 simp[mq,l8]
 exact dE (Y:=List Attr) [⟨⟨#[119,111,114,100]⟩,false⟩,⟨⟨#[116,97,103]⟩,false⟩,⟨⟨#[102,101,97,116]⟩,true⟩] (by simp) rfl
end Go.Gv

namespace Go.Gv
open Cod (enc dec)
variable {S S0:Nat→Spc}
abbrev s_m_nodes:Spc:=YI Xs PO tk Fo
abbrev s_m_heads:Spc:=YI PO Vi tk KB
theorem NQ {H:aa} {id el n:Nat} {v:Value} {d d':D} (h:H id=some (.row v el n [d])) (hd:FrzTo H d d') (hk:d'.kn=true∧d'.cells.length=n):FrzTo H (.own id v) (.list n [d']):=by
 refine .row h rfl (fun e he=> ?_) (fun k c c' h1 h2=> ?_)
 ·simp at he;subst he;exact hk
 ·cases k with
  | zero=> simp at h1 h2;subst h1;subst h2;exact hd
  | succ k=> simp at h1
def Nw (l:List Int):List D:=l.map enc
theorem Vc (a b c d e f g h:Int):D.list 1 [.v (.int .i64 a), .v (.int .i64 b), .v (.int .i64 c), .v (.int .i64 d), .v (.int .i64 e), .v (.int .i64 f), .v (.int .i64 g), .v (.int .i64 h)]= .list 1 (Nw [a,b,c,d,e,f,g,h]):=id rfl
theorem Nv (l:List Int): (Nw l).length=l.length:=by simp[Nw]
theorem P4 (l:List Int) (i:Nat) (d:D): ((Nw l)[i]?=some d)= ∃s,l[i]?=some s∧ .v (.int .i64 s)=d:=by
 simp[Nw]
theorem Mn {l:List (List B)} {r:List B} (h: ∀x∈l,wP x) (hr:wP r): ∀x∈l++ [r],wP x:=fun x hx=> by
 rcases List.mem_append.1 hx with hx | hx
 ·exact h x hx
 ·rw[List.mem_singleton] at hx;rw[hx];exact hr
theorem DX (h1:S ag=s_m_Next) (h2:S ic=s_m_Attributes) (h3:S sG=s_m_word) (h4:S wD=s_m_tag) (h5:S ku=s_m_features)
 (h6:S kw=s_m_Type) (h7:S eJ=s_r06_SortRegions) (h8:S ia=s_m_nodes) (h9:S ib=s_m_heads):
 aN jC js S (aT (a2 B Int)) (fun x=> 1≤x.2.2∧x.2.2≤1000) (enc (X:=Corpus)) (fun _ c=> HM c∧Fv c):=by
 rintro⟨L,name,most⟩ hm
 have hm:1≤most∧most≤1000:=hm
 simp[jC,js,h1,h2]
 refine fun b6=> ⟨by omega,fun y hy=> ⟨by simp only[InR];omega,trivial,fun at_ hat v26 b8=> ?_⟩⟩
 have hal:at_.length=3:=by rw[show at_=fH from hat];rfl
 obtain⟨n,hn0,hn⟩: ∃n:Nat,1+y=(n:Int)∧1≤n∧n≤1000:=⟨(1+y).toNat,by omega,by omega⟩
 rw[hn0]
 refine jS (X:=sV) [0,6,7,8] [6] [26] [] (fun t=> t.b=0∧t.e=n) (fun _=> []) (fun t=> [(8, .box b8 [enc at_, .v (.slice none 0 0),enc [t], .v (.slice none 0 0), .v (.slice none 0 0), .v (.slice none 0 0), .v (.slice none 0 0)])]) [8] (fun _=> rfl) (by decide) ?_ ?_
 ·simp[h1,Mv,lB,nX]
  refine fun z _ _=> ⟨fun _ u hu0 hu1=> ⟨hu0,hu1,fun s _=> ⟨⟨name,0,n, [⟨⟨#[121,101,97,114]⟩,s⟩]⟩,⟨rfl,rfl⟩, .inl (NQ (el:=fa) (by simp[IV]) (.same _) ⟨rfl,rfl⟩)⟩⟩,fun _=> ⟨⟨name,0,n, []⟩,⟨rfl,rfl⟩, .inl (NQ (el:=fa) (by simp[IV];rfl) ?_ ⟨rfl,rfl⟩)⟩⟩
  rw[dD,dD,dD,dD]
  exact⟨.same _, .same _, .same _, .nil _, .same _⟩
 ·rintro t ⟨ht1,ht2⟩
  refine jS (X:=List (List B)) [0,6,7,8] [6] [66] [] (fun l=> l.length=n∧ ∀r∈l,wP r) (fun _=> []) (fun l=> [(8, .box b8 [enc at_,enc l,enc [t], .v (.slice none 0 0), .v (.slice none 0 0), .v (.slice none 0 0), .v (.slice none 0 0)])]) [8] (fun _=> rfl) (by decide) ?_ ?_
  ·simp[h1]
   refine tb (X:=Int×Value×List (List B)) [0,6,7,8] [6] [] [] [] [] (fun x=> 0≤x.1∧x.1≤n∧(x.2.2.length:Int)=x.1∧ ∀r∈x.2.2,wP r) (fun x=> [(9,enc x.1)]) (fun x=> [(8, .box b8 [enc at_, .own 66 x.2.1,enc [t], .v (.slice none 0 0), .v (.slice none 0 0), .v (.slice none 0 0), .v (.slice none 0 0)]),(66, .row x.2.1 cZ 1 (x.2.2.map enc))]) (fun x=> n -x.1.toNat) (0, .slice none 0 0, []) [8,66] (fun _=> rfl) (by decide) (by decide) ?_ ?_ ?_ ?_
   ·simp
   ·simp
   ·simp[isNilRow]
    exact .nilown 66
   ·rintro⟨i,v,l⟩ ⟨q1,q2,q3,q4⟩
    simp only at q1 q2 q3 q4
    simp[h1,h3,h4,h5,Vc,Nv,P4]
    refine⟨fun hi y hy0 hy1=> ?_,fun hi=> ⟨l,⟨by omega,q4⟩, .inl (jQ cZ (by simp[IV]))⟩⟩
    have a1:y.tmod 8=y % 8:=Int.tmod_eq_emod_of_nonneg hy0
    have a2:y.tdiv 8=y/8:=Int.tdiv_eq_ediv_of_nonneg hy0
    have a3: (y/8).tmod 2=(y/8) % 2:=Int.tmod_eq_emod_of_nonneg (by omega)
    have a4:y.tdiv 12=y/12:=Int.tdiv_eq_ediv_of_nonneg hy0
    rw[a1,a2,a3,a4]
    refine⟨by omega,by omega,fun s hs=> ⟨?_,fun w1 hw1=> ⟨by simp only[InR];omega,by omega,fun w2 hw2=> ⟨by simp only[InR];omega,by omega,fun w3 hw3=> ⟨by omega,by omega,fun v2=> ⟨by simp only[InR];omega,i+1,v2,l++ [[w1,w2,w3]],⟨by omega,by omega,by simp;omega,Mn q4 ⟨w1,w2,w3,hw1,hw2,hw3,rfl⟩⟩,⟨rfl, .inl (.inl rfl), .inl (.inl (by simp))⟩,by omega⟩⟩⟩⟩⟩⟩
    have:=List.mem_of_getElem? hs
    simp at this
    omega
  ·rintro toks ⟨htk,hto⟩
   refine jS (X:=List Region) [0,6,7,8] [6,8] [165] [] (fun l=> l.length≤8∧ ∀r∈l,0≤r.b∧r.b≤n∧0≤r.e∧r.e≤n) (fun l=> [(11,enc l)]) (fun _=> []) [] (fun _=> rfl) (by decide) ?_ ?_
   ·simp[h1]
    intro k hk0 hk1
    refine tb (X:=Int×Value×List Region) [0,6,7,8] [6,8] [] [] [] [] (fun x=> 0≤x.1∧x.1+x.2.2.length≤4∧ ∀r∈x.2.2,0≤r.b∧r.b≤n∧0≤r.e∧r.e≤n) (fun x=> [(11, .own 165 x.2.1),(12,enc x.1)]) (fun x=> [(165, .row x.2.1 bN 4 (x.2.2.map enc))]) (fun x=> x.1.toNat) (k, .slice none 0 0, []) [165] (fun _=> rfl) (by decide) (by decide) ?_ ?_ ?_ ?_
    ·simp;omega
    ·simp
     exact .nilown 165
    ·simp[isNilRow]
    ·rintro⟨k,v,l⟩ ⟨q1,q2,q3⟩
     simp only at q1 q2 q3
     simp[h1,h6]
     refine⟨fun hk=> ⟨by omega,fun u hu z _ _=> ⟨trivial,fun ty=> ⟨by simp only[InR];omega,by simp only[InR];omega,by omega,fun w hw=> ⟨by simp only[InR];omega,fun b14=> ?_⟩⟩⟩⟩,fun hk=> ⟨l,⟨by omega,q3⟩,jQ bN (by simp[IV])⟩⟩
     have hr:0≤u∧u≤n∧0≤u+1+w∧u+1+w≤n:=by omega
     generalize u+1+w=e' at*
     refine jS (X:=List Pair) [0,6,7,8,11,12,14] [6,8,165] [] [] (fun _=> True) (fun _=> []) (fun kv=> [(14, .box b14 [.v (.string ty), .v (.int .i64 u), .v (.int .i64 e'),enc kv])]) [14] (fun _=> rfl) (by decide) ?_ ?_
     ·simp[h1,F0,lB,nX]
      exact fun _ _ _ _ q hq0 hq1=> ⟨hq0,hq1,fun s _=> ⟨[⟨⟨#[110]⟩,s⟩], .inl (.inl rfl)⟩⟩
     ·rintro kv -
      simp only[Sc,P0]
      simp
      refine cS (X:=Bool) [0,6,7,8,11,12,14] [6,8,14,165] (fun _=> True) (fun x=> [(15,enc x)]) (fun _=> []) ?_ ?_
      ·simp[-Bool.exists_bool]
       intro _
       refine aq (X:=Bool) [0,6,7,8,11,12,14,101] [6,8,14,165] l.length (fun _ _=> True) (fun x=> [(15,enc x)]) (fun _=> []) false (by simp) (by simp) (by omega) (by simp) (by simp) trivial (by simp) (by simp) ?_ ?_
       ·rintro j cr hj -
        obtain⟨x,hx⟩:=fE hj
        obtain⟨_,hgx⟩:=List.getElem?_eq_some_iff.1 hx
        simp[hj,hx,hgx, -Bool.exists_bool]
        exact fun _ _ _ _=> ⟨fun _ _ _=> ⟨_,(Bool.not_not _).symm⟩,fun _ _=> ⟨_,(Bool.not_not _).symm⟩⟩
       ·rintro cr -
        simp[-Bool.exists_bool]
      ·rintro cr -
       simp[-Bool.exists_bool]
       refine⟨fun _=> ⟨by omega,by omega,fun v2=> ⟨by simp only[InR];omega,k -1,v2,l++ [⟨ty,u,e',kv⟩],⟨by omega,by simp;omega,fun r hrr=> ?_⟩,⟨⟨.same _,rfl⟩, .inl (.inl (by simp))⟩,by omega⟩⟩,fun _=> ⟨by simp only[InR];omega,k -1,v,l,⟨by omega,by omega,q3⟩,⟨⟨.same _,rfl⟩, .inl (.inl rfl)⟩,by omega⟩⟩
       rcases List.mem_append.1 hrr with hrr | hrr
       ·exact q3 r hrr
       ·simp at hrr;subst hrr;exact hr
   ·rintro rg ⟨hr1,hr2⟩
    simp[h7,h8]
    refine⟨by simp only[JB];omega,fun rs ⟨hs1,hs2⟩=> ⟨⟨at_,toks, [t],rs, [], [], []⟩,by simp[Xs],by simp only[tk];omega,fun c hc=> ?_⟩⟩
    obtain⟨ns,rfl,hns,hnd⟩:=hc
    simp only at hnd
    simp[PO]
    refine jS (X:=List Int×List B) [6,8] [6] [] [] (fun x=> x.1.length≤n∧x.2.length≤n∧ ∀h∈x.1,h≤n) (fun _=> []) (fun x=> [(8, .box b8 [enc at_,enc toks,enc [t],enc rs,enc ns,enc x.1,enc x.2])]) [8] (fun _=> rfl) (by decide) ?_ ?_
    ·simp[h1,h9]
     refine fun z _ _=> ⟨fun _=> ⟨⟨at_,toks, [t],rs,ns, [], []⟩,by simp[PO],by simp only[tk];omega,fun c hc=> ?_⟩,fun _=> ⟨[], [],⟨by simp,by simp,by simp⟩, .inl ⟨rfl,rfl⟩⟩⟩
     obtain⟨hs,rl,rfl,g1,g2,g3⟩:=hc
     simp only at g1 g2 g3
     simp[Vi]
     exact⟨hs,rl,⟨by omega,by omega,fun h hh=> by have:=g3 h hh;omega⟩, .inl (.inl ⟨rfl,rfl⟩)⟩
    ·rintro⟨hs,rl⟩ ⟨p1,p2,p3⟩
     simp only at p1 p2 p3
     simp
     refine dE ⟨at_,toks, [t],rs,ns,hs,rl⟩ (.same _) ⟨?_,hat,hto⟩
     refine⟨⟨ht1,by omega,by show t.e=(toks.length:Int);omega⟩,by simp,by simp only;omega,by simp,by simp only;omega,by simp only;omega,by simp only;omega,by simp only;omega,by simp only;omega,fun r hr=> ?_,fun m hm=> ?_,hnd.2,fun h hh=> ?_⟩
     ·have:=hr2 r (hs2 r hr)
      simp only
      omega
     ·have:=hnd.1 m hm
      simp only
      omega
     ·have:=p3 h hh
      simp only
      omega
end Go.Gv

namespace Go.Gv
open Go.Proofs
theorem D7:Tri Tryz.prog jn s_m_Mod.pt:=
 ac (S:=bI []) (ah ae) M3 (fun _=> Nat.le_of_ble_eq_true rfl) (Pc)
theorem eU:Tri Tryz.prog ag s_m_Next.pt:=Mm (S:=bI [(jn,s_m_Mod)]) (ah (ab D7 ae)) rfl AH (by decide)
theorem Ps:Tri Tryz.prog tg s_m_New.pt:=Pp (H9 (S:=bI []) (ah ae) M2 (by decide) Pb)
theorem yj:Tri Tryz.prog fJ s_r04_First.pt:=
 ac (S:=bI []) (ah ae) Ey (fun _=> Nat.le_of_ble_eq_true rfl) (FG)
theorem Ig:Tri Tryz.prog np s_r04_Next.pt:=
 ac (S:=bI [(fJ,s_r04_First)]) (ah (ab yj ae)) Gq (fun _=> Nat.le_of_ble_eq_true rfl) (HS rfl)
theorem ez:Tri Tryz.prog az s_r04_ValidName.pt:=
 ac (S:=bI [(fJ,s_r04_First),(np,s_r04_Next)]) (ah (ab yj (ab Ig ae))) xu (fun _=> Nat.le_of_ble_eq_true rfl) (yz rfl rfl)
theorem FZ:Tri Tryz.prog lQ s_r01_Units.pt:=
 ac (S:=bI []) (ah ae) EA (fun _=> Nat.le_of_ble_eq_true rfl) (FI)
theorem FY:Tri Tryz.prog lP s_r01_Valid.pt:=
 ac (S:=bI [(lQ,s_r01_Units)]) (ah (ab FZ ae)) Ez (fun _=> Nat.le_of_ble_eq_true rfl) (FH rfl)
theorem kT:Tri Tryz.prog bH s_r04_ValidValue.pt:=
 ac (S:=bI [(lP,s_r01_Valid)]) (ah (ab FY ae)) vW (fun _=> Nat.le_of_ble_eq_true rfl) (w6 rfl)
theorem FX:Tri Tryz.prog lO s_r05_Parse.pt:=
 ac (S:=bI [(bH,s_r04_ValidValue)]) (ah (ab kT ae)) Ew (fun _=> Nat.le_of_ble_eq_true rfl) (FF rfl)
theorem Ie:Tri Tryz.prog jy s_r06_sign.pt:=
 ac (S:=bI []) (ah ae) Gn (fun _=> Nat.le_of_ble_eq_true rfl) (HQ)
theorem Ci:Tri Tryz.prog eY s_r06_compare.pt:=
 ac (S:=bI []) (ah ae) AG (fun _=> Nat.le_of_ble_eq_true rfl) (B8)
theorem lA:Tri Tryz.prog bL s_r06_CompareRegions.pt:=
 ac (S:=bI [(jy,s_r06_sign),(eY,s_r06_compare)]) (ah (ab Ie (ab Ci ae))) re (fun _=> Nat.le_of_ble_eq_true rfl) (rE rfl rfl)
theorem xc:Tri Tryz.prog fq s_r06_Attributes.pt:=
 ac (S:=bI [(az,s_r04_ValidName)]) (ah (ab ez ae)) vV (fun _=> Nat.le_of_ble_eq_true rfl) (w5 rfl)
theorem FU:Tri Tryz.prog lM s_r06_Value.pt:=
 ac (S:=bI [(lO,s_r05_Parse),(bH,s_r04_ValidValue)]) (ah (ab FX (ab kT ae))) Et (fun _=> Nat.le_of_ble_eq_true rfl) (FC rfl rfl)
theorem yi:Tri Tryz.prog fI s_r06_pairs.pt:=
 ac (S:=bI [(az,s_r04_ValidName),(bH,s_r04_ValidValue)]) (ah (ab ez (ab kT ae))) Er (fun _=> Nat.le_of_ble_eq_true rfl) (FA rfl rfl)
theorem vD:Tri Tryz.prog eI s_r06_within.pt:=
 ac (S:=bI []) (ah ae) Cn (fun _=> Nat.le_of_ble_eq_true rfl) (DR)
theorem If:Tri Tryz.prog nn s_r06_bare.pt:=
 ac (S:=bI []) (ah ae) Gp (fun _=> Nat.le_of_ble_eq_true rfl) (HR)
theorem D4:Tri Tryz.prog iB s_r06_TextAt.pt:=
 ac (S:=bI []) (ah ae) Cq (fun _=> Nat.le_of_ble_eq_true rfl) (DU)
theorem zS:Tri Tryz.prog hZ s_r06_FindText.pt:=
 ac (S:=bI []) (ah ae) yM (fun _=> Nat.le_of_ble_eq_true rfl) (zD)
theorem rL:Tri Tryz.prog dG s_r06_sameAttributes.pt:=
 ac (S:=bI []) (ah ae) rc (fun _=> Nat.le_of_ble_eq_true rfl) (rD)
theorem D3:Tri Tryz.prog kp s_r06_cyclic.pt:=
 ac (S:=bI []) (ah ae) Cp (fun _=> Nat.le_of_ble_eq_true rfl) (DT)
theorem D2:Tri Tryz.prog ko s_r06_tokens.pt:=
 ac (S:=bI [(lM,s_r06_Value)]) (ah (ab FU ae)) Co (fun _=> Nat.le_of_ble_eq_true rfl) (DS rfl)
theorem FS:Tri Tryz.prog lK s_r06_texts.pt:=
 ac (S:=bI [(az,s_r04_ValidName),(fI,s_r06_pairs)]) (ah (ab ez (ab yi ae))) Ep (fun _=> Nat.le_of_ble_eq_true rfl) (Fz rfl rfl)
theorem Ch:Tri Tryz.prog ja s_r06_regions.pt:=
 ac (S:=bI [(az,s_r04_ValidName),(fI,s_r06_pairs),(eI,s_r06_within),(bL,s_r06_CompareRegions)]) (ah (ab ez (ab yi (ab vD (ab lA ae))))) AF (fun _=> Nat.le_of_ble_eq_true rfl) (B7 rfl rfl rfl rfl)
theorem FW:Tri Tryz.prog lN s_r06_Nodes.pt:=
 ac (S:=bI [(az,s_r04_ValidName),(eI,s_r06_within)]) (ah (ab ez (ab vD ae))) Ev (fun _=> Nat.le_of_ble_eq_true rfl) (FE rfl rfl)
theorem FT:Tri Tryz.prog lL s_r06_heads.pt:=
 ac (S:=bI [(az,s_r04_ValidName),(nn,s_r06_bare),(iB,s_r06_TextAt),(kp,s_r06_cyclic)]) (ah (ab ez (ab If (ab D4 (ab D3 ae))))) Es (fun _=> Nat.le_of_ble_eq_true rfl) (FB rfl rfl rfl rfl)
theorem zR:Tri Tryz.prog hU s_r06_Validate.pt:=
 ac (S:=bI [(fq,s_r06_Attributes),(ko,s_r06_tokens),(lK,s_r06_texts),(ja,s_r06_regions),(lN,s_r06_Nodes),(lL,s_r06_heads)]) (ah (ab xc (ab D2 (ab FS (ab Ch (ab FW (ab FT ae))))))) yL (fun _=> Nat.le_of_ble_eq_true rfl) (zC rfl rfl rfl rfl rfl rfl)
theorem FV:Tri Tryz.prog jM s_r06_Valid.pt:=
 ac (S:=bI [(hU,s_r06_Validate)]) (ah (ab zR ae)) Eu (fun _=> Nat.le_of_ble_eq_true rfl) (FD rfl)
theorem vE:Tri Tryz.prog eJ s_r06_SortRegions.pt:=
 ac (S:=bI [(bL,s_r06_CompareRegions)]) (ah (ab lA ae)) uh (fun _=> Nat.le_of_ble_eq_true rfl) (vm rfl)
theorem zQ:Tri Tryz.prog fp s_r06_allHeads.pt:=
 ac (S:=bI []) (ah ae) yK (fun _=> Nat.le_of_ble_eq_true rfl) (zB)
theorem D5:Tri Tryz.prog kq s_r06_Concat.pt:=
 ac (S:=bI [(jM,s_r06_Valid),(dG,s_r06_sameAttributes),(hZ,s_r06_FindText),(fp,s_r06_allHeads)]) (ah (ab FV (ab rL (ab zS (ab zQ ae))))) Cr (fun _=> Nat.le_of_ble_eq_true rfl) (DV rfl rfl rfl rfl)
theorem Mt:Tri Tryz.prog sG s_m_word.pt:=
 ac (S:=bI []) (ah ae) K9 (fun _=> Nat.le_of_ble_eq_true rfl) (L8)
theorem Pr:Tri Tryz.prog wD s_m_tag.pt:=
 ac (S:=bI []) (ah ae) M1 (fun _=> Nat.le_of_ble_eq_true rfl) (Pa)
theorem D6:Tri Tryz.prog ku s_m_features.pt:=
 ac (S:=bI []) (ah ae) Cs (fun _=> Nat.le_of_ble_eq_true rfl) (DW)
theorem Mu:Tri Tryz.prog kw s_m_Type.pt:=
 ac (S:=bI [(jn,s_m_Mod)]) (ah (ab D7 ae)) C9 (fun _=> Nat.le_of_ble_eq_true rfl) (L9 rfl)
theorem zV:Tri Tryz.prog ic s_m_Attributes.pt:=
 ac (S:=bI []) (ah ae) yQ (fun _=> Nat.le_of_ble_eq_true rfl) (zE)
theorem zT:Tri Tryz.prog ia s_m_nodes.pt:=
 yh (S:=bI [(ag,s_m_Next)]) (ah (ab eU ae)) yN (by decide) (KH rfl)
theorem zU:Tri Tryz.prog ib s_m_heads.pt:=
 yh (S:=bI [(ag,s_m_Next)]) (ah (ab eU ae)) yP (by decide) (KI rfl)
theorem vF:Tri Tryz.prog dN s_m_Document.pt:=
 ac (S:=bI [(ag,s_m_Next),(ic,s_m_Attributes),(sG,s_m_word),(wD,s_m_tag),(ku,s_m_features),(kw,s_m_Type),(eJ,s_r06_SortRegions),(ia,s_m_nodes),(ib,s_m_heads)]) (ah (ab eU (ab zV (ab Mt (ab Pr (ab D6 (ab Mu (ab vE (ab zT (ab zU ae)))))))))) uj (fun _=> Nat.le_of_ble_eq_true rfl) (DX rfl rfl rfl rfl rfl rfl rfl rfl rfl)
theorem yF:Tri Tryz.prog gj s_m_Corpus.pt:=
 ac (S:=bI [(ag,s_m_Next),(dN,s_m_Document),(kq,s_r06_Concat)]) (ah (ab eU (ab vF (ab D5 ae)))) xx (fun _=> Nat.le_of_ble_eq_true rfl) (HV rfl rfl rfl)
end Go.Gv
