/- A part of the framework and of the walks: W15 T20 W16 T21 W18 W9 W19 Asm. -/
import Derived.Test.YticbieanhfdnoaaGreatDoorGa23
import Derived.Test.YticbieanhfdnoaaGreatDoorGa20
import Derived.Test.YticbieanhfdnoaaGreatDoorGa21
set_option linter.unusedSimpArgs false
set_option linter.unusedVariables false
set_option maxRecDepth 100000

namespace Go.Gv
open Cod (enc dec)
variable {S S0:Nat→Spc}
theorem Ln:K3 zx yw S:=by
 intro l
 simp[zx,yw, -List.map_take,qk,tZ]
 omega
def Si (c:Corpus):List D:= [enc c.attrs,enc c.toks,enc c.texts,enc c.regs, .v (.slice none 0 0), .v (.slice none 0 0), .v (.slice none 0 0)]
def LW (c:Corpus):List D:= [enc c.attrs,enc c.toks,enc c.texts,enc c.regs,enc c.nodes, .v (.slice none 0 0), .v (.slice none 0 0)]
def Qp (c:Corpus):List D:= [enc c.attrs,enc c.toks,enc c.texts,enc c.regs,enc c.nodes,enc c.heads,enc c.rels]
end Go.Gv

namespace Go.Gv
section
variable {S:Nat→Spc} {σ:Sg} {H:aa} {K:Ex→Sg→aa→Prop}
theorem rz {X:Type} (ks hk gv0 gv:List Nat) (rn0 rn:List (Nat×Nat)) (P:X→Prop) (sl:X→List (Nat×D)) (hp:X→List (Nat×Res)) (m:X→Nat) (x0:X) (ids:List Nat) (hids: ∀x,(hp x).map (·.1)=ids)
 (hi0:Pq rn0 (ids++hk) gv0∧ ∀i∈hk,i∉ids→IC rn0 i=i) (hi:Pq rn (ids++hk) gv∧ ∀i∈hk,i∉ids→IC rn i=i) {k:Nat} {b:CC} (h0:P x0)
 (hs:rq (F4 gv0 H) (sl x0) σ) (hh:py (F4 gv0 H) rn0 (hp x0) H)
 (hr: ∀x,P x→vc S b (II P (fun y=> Ld σ H ks hk gv rn (sl y) (hp y)) m x K) (mC (sl x) (gy ks σ)) (fN (hp x) (gV hk H))):vc S (.loop k b) K σ H:=by
 rw[CD]
 refine⟨⟨X,P,fun x=> mC (sl x) (gy ks σ),fun x=> fN (hp x) (gV hk H),m⟩,⟨x0,h0,vk (by rw[hids x0];exact hi0.1) (by rw[hids x0];exact hi0.2) hs (fun _ _=> rfl) hh (fun _ _=> rfl)⟩,fun x hx=> nY b _ _ (fun e σ' H' h=> ?_) (hr x hx)⟩
 cases e with
 | norm=>
   obtain⟨y,h1,h2,h3⟩:=h
   exact⟨y,h1,vk (by rw[hids y];exact hi.1) (by rw[hids y];exact hi.2) h2.1 h2.2.1 h2.2.2.1 h2.2.2.2,h3⟩
 | ex i=> exact h
 | ret=> exact h
end
end Go.Gv

namespace Go.Gv
open Cod (enc dec)
variable {S S0:Nat→Spc}
def HF (l:List B):List D:=l.map enc
theorem I5 (a b:B):D.list 1 [.v (.string a), .v (.string b)]= .list 1 (HF [a,b]):=id rfl
theorem MP (a b c:B):D.list 1 [.v (.string a), .v (.string b), .v (.string c)]= .list 1 (HF [a,b,c]):=id rfl
theorem qm (l:List B): (HF l).length=l.length:=by simp[HF]
theorem uc (l:List B) (i:Nat) (d:D): ((HF l)[i]?=some d)= ∃s,l[i]?=some s∧ .v (.string s)=d:=by
 simp[HF]
def Lc (n:Nat) (ns:List nU):Prop:=(∀x∈ns,0≤x.b∧x.b≤n∧0≤x.e∧x.e≤n)∧ ∀ (j:Nat) (y:nU),ns[j]?=some y→y.par < j
def CS (c c':Corpus):Prop:= ∃ns,c'= { c with nodes:=ns } ∧ns.length≤6∧Lc c.toks.length ns
def rG (c:Corpus):Prop:=c.toks.length≤4096
theorem Hu (h1:S am=s_m_Next):CR lp k8 S Si LW rG CS:=by
 intro L b c hc
 have hc:c.toks.length≤4096:=hc
 simp[lp,k8,h1,Si]
 intro _ k hk0 hk1
 refine rz (X:=Int×Int×Value×List nU) [0,1,4] [] [] [] [] [] (fun x=> 0≤x.1∧x.1≤c.toks.length∧0≤x.2.1∧2*x.2.1+x.2.2.2.length≤6∧Lc c.toks.length x.2.2.2) (fun x=> [(5,enc x.1),(6,enc x.2.1)]) (fun x=> [(1, .box b [enc c.attrs,enc c.toks,enc c.texts,enc c.regs, .own 61 x.2.2.1, .v (.slice none 0 0), .v (.slice none 0 0)]),(61, .row x.2.2.1 eL 4 (x.2.2.2.map enc))]) (fun x=> x.2.1.toNat) (0,k, .slice none 0 0, []) [1,61] (fun _=> rfl) (by decide) (by decide) ?_ ?_ ?_ ?_
 ·simp[Lc];omega
 ·simp
 ·simp[isNilRow]
  exact .nilown 61
 ·rintro⟨at_,k,v,l⟩ ⟨q1,q2,q3,q4,q5⟩
  simp only at q1 q2 q3 q4 q5
  simp[h1,I5,qm,uc]
  have fin:M9 LW b (CS c) (D.tup []) (ai (ai (ai (fun x=> none) 96 none) 61 (some (Res.row v eL 4 (List.map enc l)))) 1 (some (Res.box b [D.list 2 (List.map enc c.attrs),D.list 1 (List.map enc c.toks),D.list 4 (List.map enc c.texts),D.list 4 (List.map enc c.regs),D.own 61 v,D.v (Value.slice none 0 0),D.v (Value.slice none 0 0)]))):=by
   refine⟨{ c with nodes:=l },_,rfl,rfl,?_,⟨l,rfl,by omega,q5⟩⟩
   simp[LW]
   exact jw eL rfl
  refine⟨fun hk=> ⟨fun hat y hy0 hy1=> ⟨by simp only[InR];omega,fun _=> fin,fun hb=> ⟨by simp only[InR];omega,by simp only[InR];omega,by omega,fun y1 hy1'=> ⟨by simp only[InR];omega,fun _ z hz0 hz1=> ⟨hz0,hz1,fun lb hlb=> ⟨by omega,by omega,fun v1=> ?_⟩⟩⟩⟩⟩,fun _=> fin⟩,fun _=> fin⟩
  have hb0:0≤at_+y:=by omega
  generalize at_+y=b' at*
  have he:b'+1+y1≤c.toks.length∧0≤y1:=by omega
  generalize hee:b'+1+y1=e' at*
  have ok1:Lc c.toks.length (l++ [⟨lb,b',e', -1⟩]):=by
   refine⟨fun x hx=> ?_,fun j x hx=> ?_⟩
   ·rcases List.mem_append.1 hx with hx | hx
    ·exact q5.1 x hx
    ·simp at hx;subst hx;simp only;omega
   ·by_cases e:j < l.length
    ·rw[List.getElem?_append_left e] at hx;exact q5.2 j x hx
    ·rw[List.getElem?_append_right (by omega)] at hx
     have hx:=List.mem_of_getElem? hx
     simp at hx;subst hx;simp only;omega
  refine dY (X:=Value×List nU) [0,1,4,6,8] [] (fun x=> x.2.length≤l.length+2∧Lc c.toks.length x.2) (fun _=> []) (fun x=> [(1, .box b [enc c.attrs,enc c.toks,enc c.texts,enc c.regs, .own 61 x.1, .v (.slice none 0 0), .v (.slice none 0 0)]),(61, .row x.1 eL 4 (x.2.map enc))]) ?_ ?_
  ·simp[h1,I5,qm,uc]
   refine fun u hu0 hu1=> ⟨fun _=> ⟨by simp only[InR];omega,by omega,fun y2 hy2=> ⟨by simp only[InR];omega,fun z2 hz20 hz21=> ⟨hz20,hz21,fun lb2 _=> ⟨by simp only[InR];omega,by simp only[InR];omega,by omega,fun y3 hy3=> ⟨by simp only[InR];omega,by omega,by omega,fun v2=> ⟨v2,l++ [⟨lb,b',e', -1⟩] ++ [⟨lb2,b'+y2,b'+y2+1+y3,l.length⟩],⟨by simp,?_⟩, .inl rfl, .inl ⟨rfl,by simp⟩⟩⟩⟩⟩⟩⟩,fun _=> ⟨v1,l++ [⟨lb,b',e', -1⟩],⟨by simp,ok1⟩, .inl rfl, .inl ⟨rfl,by simp⟩⟩⟩
   refine⟨fun x hx=> ?_,fun j x hx=> ?_⟩
   ·rcases List.mem_append.1 hx with hx | hx
    ·exact ok1.1 x hx
    ·simp at hx;subst hx;simp only;omega
   ·by_cases e:j < (l++ [(⟨lb,b',e', -1⟩:nU)]).length
    ·rw[List.getElem?_append_left e] at hx;exact ok1.2 j x hx
    ·rw[List.getElem?_append_right (by omega)] at hx
     have hx:=List.mem_of_getElem? hx
     simp at hx;subst hx;simp at e;simp only;omega
  ·rintro⟨v2,l2⟩ ⟨r1,r2⟩
   simp only at r1 r2
   simp
   exact⟨by simp only[InR];omega,e',k -1,v2,l2,⟨by omega,by omega,by omega,by omega,r2⟩,⟨⟨rfl,rfl⟩, .inl (.inl rfl), .inl (.inl rfl)⟩,by omega⟩
end Go.Gv

namespace Go.Gv
theorem IH {σ:Sg} {H:aa} (t id:Nat) (x:Value) (el n:Nat) (es:List D) (h1:σ t= .own id x) (h2:H id=some (.row x el n es)):Wk σ H (lD σ t (.sub id x n 0 es.length)) H:=by
 intro E a w ⟨hd,hN,tp,hw,hr⟩
 refine⟨hd,hN,tp,hw,fun s=> ?_⟩
 unfold lD
 split
 ·rename_i e
  subst e
  have h3:=hr s
  rw[h1] at h3
  have e1:a.tmps.getD s undef=x:=by
   generalize a.tmps.getD s undef=y at h3
   cases h3;rfl
  obtain⟨xs,⟨_,h4⟩,_⟩:=hw.sat.ok id _ h2
  rw[e1]
  rcases h4 with⟨rfl,h5⟩ | ⟨g,cap,cur,rfl,_,_,h6,h7,_⟩
  ·rw[h5]
   exact .subnil id n
  ·exact .sub id g es.length cap n 0 es.length _ (Nat.zero_le _) (Nat.le_refl _) h6 h7 (fun _=> by simp)
 ·exact hr s
open Cod (enc dec) in
theorem Qs {X:Type} [Cod X] {H:aa} {id n hi:Nat} {v:Value} {l:List X} (el:Nat) (h:H id=some (.row v el n (l.map enc))) (hh:hi=l.length) (hn:n=Cod.wd X:=by rfl):FrzTo H (.sub id v n 0 hi) (.list n (l.map enc)):=by
 subst hh
 have e: ((l.map (enc (X:=X))).take l.length).drop 0=l.map enc:=by
  rw[List.drop_zero,List.take_of_length_le (by simp)]
 refine .sub h (by rw[e]) (fun d hd=> ?_) (fun k c c' h1 h2=> ?_)
 ·obtain⟨x,_,rfl⟩:=List.mem_map.1 hd
  exact⟨Cod.kn x,(Cod.wid x).trans hn.symm⟩
 ·rw[e,h2] at h1
  cases h1
  exact .same _
end Go.Gv

namespace Go.Gv
open Cod (enc dec)
variable {S S0:Nat→Spc}
def MJ (n:Nat) (hs:List Int) (rs:List B):Prop:=hs.length=n∧rs.length=n∧ ∀h∈hs,h≤n
def Hn (c c':Corpus):Prop:= ∃hs rs,c'= { c with heads:=hs,rels:=rs } ∧hs.length≤c.toks.length∧rs.length≤c.toks.length∧ ∀h∈hs,h≤c.toks.length
theorem Hv (h1:S am=s_m_Next):CR lr k9 S LW Qp rG Hn:=by
 intro L b c hc
 have hc:c.toks.length≤4096:=hc
 simp[lr,k9,h1,LW]
 intro _
 refine rz (X:=Int×List Int) [0,1,4] [1] [] [27] [] [] (fun x=> 0≤x.1∧x.1≤c.toks.length∧(x.2.length:Int)=x.1∧ ∀y∈x.2,0≤y∧y < c.toks.length) (fun x=> [(5,enc x.2),(6,enc x.1)]) (fun x=> []) (fun x=> c.toks.length -x.1.toNat) (0, []) [] (fun _=> rfl) (by decide) (by decide) ?_ ?_ ?_ ?_
 ·simp
 ·simp
 ·simp
 ·rintro⟨i,l⟩ ⟨q1,q2,q3,q4⟩
  simp only at q1 q2 q3 q4
  simp[h1]
  refine⟨fun hi=> ⟨by simp only[InR];omega,by omega,fun y hy=> ?_⟩,fun hi=> ?_⟩
  ·have e:List.take y.toNat (List.map enc l) ++D.v (.int .i64 i)::List.drop y.toNat (List.map enc l)=(l.take y.toNat++i::l.drop y.toNat).map enc:=by simp
   refine⟨by omega,by omega,by omega,by omega,by omega,by omega,by omega,by omega,by omega,by omega,fun v=> ⟨by simp only[InR];omega,i+1,l.take y.toNat++i::l.drop y.toNat,⟨by omega,by omega,?_,fun z hz=> ?_⟩,⟨?_,rfl⟩,by omega⟩⟩
   ·simp;omega
   ·rcases List.mem_append.1 hz with hz | hz
    ·exact q4 z (List.mem_of_mem_take hz)
    ·rcases List.mem_cons.1 hz with hz | hz
     ·omega
     ·exact q4 z (List.mem_of_mem_drop hz)
   ·rw[e]
    exact jw bT (by simp[F4])
  ·have hil:l.length=c.toks.length:=by omega
   refine⟨by omega,by omega,fun v8=> ⟨by omega,by omega,fun v9=> ?_⟩⟩
   refine dY (X:=Bool×List Int×List B) [1] [1] (fun x=> MJ c.toks.length x.2.1 x.2.2) (fun x=> [(8, .sub 40 v8 1 0 c.toks.length),(9, .sub 42 v9 1 0 c.toks.length),(10,enc x.1)]) (fun x=> [(40, .row v8 bT 1 (x.2.1.map enc)),(42, .row v9 ar 1 (x.2.2.map enc))]) ?_ ?_
   ·simp[-Bool.exists_bool]
    intro _
    refine AD ((IH 8 40 v8 bT 1 _ rfl rfl).trans (IH 9 42 v9 ar 1 _ rfl rfl)) ?_
    simp only[Pw]
    refine aq (X:=Bool×List Int×List B) [0,1,5,8,9,43] [1] l.length (fun _ x=> MJ c.toks.length x.2.1 x.2.2) (fun x=> [(10,enc x.1)]) (fun x=> [(40, .row v8 bT 1 (x.2.1.map enc)),(42, .row v9 ar 1 (x.2.2.map enc))]) (false,List.replicate c.toks.length 0,List.replicate c.toks.length ⟨#[]⟩) (by simp) (by simp) (by omega) (by simp) (by simp) (by simp[MJ]) (by simp) (by simp) ?_ ?_
    ·rintro k ⟨sm,hs,rs⟩ hk ⟨p1,p2,p3⟩
     simp only at p1 p2 p3
     obtain⟨x,hx⟩:=fb hk
     obtain⟨_,hgx⟩:=List.getElem?_eq_some_iff.1 hx
     have hxr:=q4 x (me hx)
     simp[hk,hx,hgx, -Bool.exists_bool]
     refine⟨by omega,by omega,by omega,fun a ha=> ?_⟩
     have e1: (List.map enc hs).set x.toNat (D.v (Value.int .i64 (-1)))=(hs.set x.toNat (-1)).map enc:=gb hs _ _
     rw[e1]
     have p1': (hs.set x.toNat (-1)).length=c.toks.length:=by simp[p1]
     have p3': ∀h∈hs.set x.toNat (-1),h≤c.toks.length:=fun h hh=> by
      rcases List.mem_or_eq_of_mem_set hh with hh | hh
      ·exact p3 h hh
      ·omega
     generalize hs.set x.toNat (-1)=hs1 at p1' p3' ⊢
     clear p1 p3 ha e1
     refine dY (X:=List Int×List B) [0,1,5,8,9,10,12,43,44,45] [1] (fun x=> MJ c.toks.length x.1 x.2) (fun _=> []) (fun x=> [(40, .row v8 bT 1 (x.1.map enc)),(42, .row v9 ar 1 (x.2.map enc))]) ?_ ?_
     ·simp[h1,MP,qm,uc, -Bool.exists_bool]
      have hlx: ∀ (y:Int),hs1.length=c.toks.length→ ∃z,hs1[x.toNat]?=some z:=fun _ _=> fb (by omega)
      refine⟨fun hk0 y _ _=> ⟨fun _=> ⟨by omega,fun y2 hy2=> ⟨by omega,by omega,fun a ha y3 hy30 hy31=> ⟨hy30,hy31,fun s _=> ⟨by omega,by omega,by omega,fun z _=> ⟨by omega,by omega,by omega,fun z2 _=> ⟨hs1.set x.toNat a,rs.set x.toNat s,⟨by simp[p1'],by simp[p2],fun h hh=> ?_⟩, .inl (gb hs1 _ _), .inl (gb rs _ _)⟩⟩⟩⟩⟩⟩,fun _=> ⟨hs1,rs,⟨p1',p2,p3'⟩, .inl rfl, .inl rfl⟩⟩,fun _=> ⟨hs1,rs,⟨p1',p2,p3'⟩, .inl rfl, .inl rfl⟩⟩
      rcases List.mem_or_eq_of_mem_set hh with hh | hh
      ·exact p3' h hh
      ·have:=q4 a (me ha)
       omega
     ·rintro⟨hs2,rs2⟩ ⟨r1,r2,r3⟩
      simp only at r1 r2 r3
      simp[-Bool.exists_bool]
      refine⟨fun _=> ⟨by omega,by omega,by omega,fun a _=> ⟨fun _=> ⟨by omega,by omega,by omega,fun a2 _=> ⟨!decide (a2=⟨#[]⟩),hs2,rs2,⟨r1,r2,r3⟩,by simp, .inl rfl, .inl rfl⟩⟩,fun _=> ⟨true,hs2,rs2,⟨r1,r2,r3⟩,by simp, .inl rfl, .inl rfl⟩⟩⟩,fun _=> ⟨true,hs2,rs2,⟨r1,r2,r3⟩,by simp, .inl rfl, .inl rfl⟩⟩
    ·rintro⟨sm,hs,rs⟩ ⟨p1,p2,p3⟩
     simp only at p1 p2 p3
     simp[-Bool.exists_bool]
     exact⟨sm,hs,rs,⟨p1,p2,p3⟩,rfl, .inl rfl, .inl rfl⟩
   ·rintro⟨sm,hs,rs⟩ ⟨p1,p2,p3⟩
    simp only at p1 p2 p3
    simp
    refine⟨fun _=> ⟨{ c with heads:=hs,rels:=rs },_,rfl,rfl,?_,⟨hs,rs,rfl,by omega,by omega,p3⟩⟩,fun _=> ⟨{ c with heads:= [],rels:= [] },_,rfl,rfl,?_,⟨[], [],rfl,by simp,by simp,by simp⟩⟩⟩
    ·simp[Qp]
     exact⟨Qs bT rfl p1.symm,Qs ar rfl p2.symm⟩
    ·simp[Qp]
end Go.Gv

namespace Go.Gv
open Cod (enc dec)
variable {S S0:Nat→Spc}
abbrev s_m_word:Spc:=cF (a1 Int) (fun n=> 0≤n∧n < 6) (enc (X:=B)) fun _ y=> y∈Hm
theorem IK:aO wc vI S (a1 Int) (fun n=> 0≤n∧n < 6) (enc (X:=B)) fun _ y=> y∈Hm:=by
 rintro n hn
 have hn:0≤n∧n < 6:=hn
 simp[wc,vI]
 refine⟨hn.1,hn.2,?_⟩
 have:n=0∨n=1∨n=2∨n=3∨n=4∨n=5:=by omega
 rcases this with rfl | rfl | rfl | rfl | rfl | rfl <;> simp[Hm]
abbrev s_m_tag:Spc:=cF (a1 Int) (fun n=> 0≤n∧n < 2) (enc (X:=B)) fun _ y=> y∈MC
theorem Lm:aO zw yv S (a1 Int) (fun n=> 0≤n∧n < 2) (enc (X:=B)) fun _ y=> y∈MC:=by
 rintro n hn
 have hn:0≤n∧n < 2:=hn
 simp[zw,yv]
 refine⟨hn.1,hn.2,?_⟩
 have:n=0∨n=1:=by omega
 rcases this with rfl | rfl <;> simp[MC]
abbrev s_m_features:Spc:=cF (a1 Int) (fun n=> 0≤n∧n < 4) (enc (X:=B)) fun _ y=> y∈Hq
theorem Bq:aO nr na S (a1 Int) (fun n=> 0≤n∧n < 4) (enc (X:=B)) fun _ y=> y∈Hq:=by
 rintro n hn
 have hn:0≤n∧n < 4:=hn
 simp[nr,na]
 refine⟨hn.1,hn.2,?_⟩
 have:n=0∨n=1∨n=2∨n=3:=by omega
 rcases this with rfl | rfl | rfl | rfl <;> simp[Hq]
abbrev s_m_Type:Spc:=cF (a1 Int) cb (enc (X:=B)) kz
theorem IL (h1:S gS=s_m_Mod):aO we vJ S (a1 Int) cb (enc (X:=B)) kz:=by
 rintro n -
 simp[we,vJ,h1]
 have h3:=yP n 3 (by omega)
 refine⟨h3.1,h3.2,?_⟩
 have:uz n 3=0∨uz n 3=1∨uz n 3=2:=by omega
 rcases this with h | h | h <;> simp[h]
abbrev s_m_Attributes:Spc:=cF a0 cb (enc (X:=List Attr)) (fun _ l=> M8 l)
theorem xI:aO lu lc S a0 cb (enc (X:=List Attr)) (fun _ l=> M8 l):=by
 rintro x -
 simp[lu,lc]
 exact d7 (Y:=List Attr) [⟨⟨#[119,111,114,100]⟩,false⟩,⟨⟨#[116,97,103]⟩,false⟩,⟨⟨#[102,101,97,116]⟩,true⟩] (by simp) rfl
end Go.Gv

namespace Go.Gv
open Cod (enc dec)
variable {S S0:Nat→Spc}
abbrev s_m_nodes:Spc:=TF Si LW rG CS
abbrev s_m_heads:Spc:=TF LW Qp rG Hn
theorem Kj {H:aa} {id el n:Nat} {v:Value} {d d':D} (h:H id=some (.row v el n [d])) (hd:FrzTo H d d') (hk:d'.kn=true∧d'.cells.length=n):FrzTo H (.own id v) (.list n [d']):=by
 refine .row h rfl (fun e he=> ?_) (fun k c c' h1 h2=> ?_)
 ·simp at he;subst he;exact hk
 ·cases k with
  | zero=> simp at h1 h2;subst h1;subst h2;exact hd
  | succ k=> simp at h1
def J1 (l:List Int):List D:=l.map enc
theorem Qj (a b c d e f g h:Int):D.list 1 [.v (.int .i64 a), .v (.int .i64 b), .v (.int .i64 c), .v (.int .i64 d), .v (.int .i64 e), .v (.int .i64 f), .v (.int .i64 g), .v (.int .i64 h)]= .list 1 (J1 [a,b,c,d,e,f,g,h]):=id rfl
theorem J0 (l:List Int): (J1 l).length=l.length:=by simp[J1]
theorem L6 (l:List Int) (i:Nat) (d:D): ((J1 l)[i]?=some d)= ∃s,l[i]?=some s∧ .v (.int .i64 s)=d:=by
 simp[J1]
theorem IZ {l:List (List B)} {r:List B} (h: ∀x∈l,zH x) (hr:zH r): ∀x∈l++ [r],zH x:=fun x hx=> by
 rcases List.mem_append.1 hx with hx | hx
 ·exact h x hx
 ·rw[List.mem_singleton] at hx;rw[hx];exact hr
theorem Bt (h1:S am=s_m_Next) (h2:S gE=s_m_Attributes) (h3:S qZ=s_m_word) (h4:S uX=s_m_tag) (h5:S jB=s_m_features)
 (h6:S q7=s_m_Type) (h7:S ep=s_r06_SortRegions) (h8:S gC=s_m_nodes) (h9:S gD=s_m_heads):
 aO iS iJ S (aT (a2 B Int)) (fun x=> 1≤x.2.2∧x.2.2≤1000) (enc (X:=Corpus)) (fun _ c=> EY c∧CV c):=by
 rintro⟨L,name,most⟩ hm
 have hm:1≤most∧most≤1000:=hm
 simp[iS,iJ,h1,h2]
 refine fun b6=> ⟨by omega,fun y hy=> ⟨by simp only[InR];omega,trivial,fun at_ hat v26 b8=> ?_⟩⟩
 have hal:at_.length=3:=by rw[show at_=KQ from hat];rfl
 obtain⟨n,hn0,hn⟩: ∃n:Nat,1+y=(n:Int)∧1≤n∧n≤1000:=⟨(1+y).toNat,by omega,by omega⟩
 rw[hn0]
 refine ko (X:=rp) [0,6,7,8] [6] [26] [] (fun t=> t.b=0∧t.e=n) (fun _=> []) (fun t=> [(8, .box b8 [enc at_, .v (.slice none 0 0),enc [t], .v (.slice none 0 0), .v (.slice none 0 0), .v (.slice none 0 0), .v (.slice none 0 0)])]) [8] (fun _=> rfl) (by decide) ?_ ?_
 ·simp[h1,MP,qm,uc]
  refine fun z _ _=> ⟨fun _ u hu0 hu1=> ⟨hu0,hu1,fun s _=> ⟨⟨name,0,n, [⟨⟨#[121,101,97,114]⟩,s⟩]⟩,⟨rfl,rfl⟩, .inl (Kj (el:=eK) (by simp[F4]) (.same _) ⟨rfl,rfl⟩)⟩⟩,fun _=> ⟨⟨name,0,n, []⟩,⟨rfl,rfl⟩, .inl (Kj (el:=eK) (by simp[F4];rfl) ?_ ⟨rfl,rfl⟩)⟩⟩
  rw[dj,dj,dj,dj]
  exact⟨.same _, .same _, .same _, .nil _, .same _⟩
 ·rintro t ⟨ht1,ht2⟩
  refine ko (X:=List (List B)) [0,6,7,8] [6] [66] [] (fun l=> l.length=n∧ ∀r∈l,zH r) (fun _=> []) (fun l=> [(8, .box b8 [enc at_,enc l,enc [t], .v (.slice none 0 0), .v (.slice none 0 0), .v (.slice none 0 0), .v (.slice none 0 0)])]) [8] (fun _=> rfl) (by decide) ?_ ?_
  ·simp[h1]
   refine rz (X:=Int×Value×List (List B)) [0,6,7,8] [6] [] [] [] [] (fun x=> 0≤x.1∧x.1≤n∧(x.2.2.length:Int)=x.1∧ ∀r∈x.2.2,zH r) (fun x=> [(9,enc x.1)]) (fun x=> [(8, .box b8 [enc at_, .own 66 x.2.1,enc [t], .v (.slice none 0 0), .v (.slice none 0 0), .v (.slice none 0 0), .v (.slice none 0 0)]),(66, .row x.2.1 df 1 (x.2.2.map enc))]) (fun x=> n -x.1.toNat) (0, .slice none 0 0, []) [8,66] (fun _=> rfl) (by decide) (by decide) ?_ ?_ ?_ ?_
   ·simp
   ·simp
   ·simp[isNilRow]
    exact .nilown 66
   ·rintro⟨i,v,l⟩ ⟨q1,q2,q3,q4⟩
    simp only at q1 q2 q3 q4
    simp[h1,h3,h4,h5,Qj,J0,L6]
    refine⟨fun hi y hy0 hy1=> ?_,fun hi=> ⟨l,⟨by omega,q4⟩, .inl (jw df (by simp[F4]))⟩⟩
    have a1:y.tmod 8=y % 8:=Int.tmod_eq_emod_of_nonneg hy0
    have a2:y.tdiv 8=y/8:=Int.tdiv_eq_ediv_of_nonneg hy0
    have a3: (y/8).tmod 2=(y/8) % 2:=Int.tmod_eq_emod_of_nonneg (by omega)
    have a4:y.tdiv 12=y/12:=Int.tdiv_eq_ediv_of_nonneg hy0
    rw[a1,a2,a3,a4]
    refine⟨by omega,by omega,fun s hs=> ⟨?_,fun w1 hw1=> ⟨by simp only[InR];omega,by omega,fun w2 hw2=> ⟨by simp only[InR];omega,by omega,fun w3 hw3=> ⟨by omega,by omega,fun v2=> ⟨by simp only[InR];omega,i+1,v2,l++ [[w1,w2,w3]],⟨by omega,by omega,by simp;omega,IZ q4 ⟨w1,w2,w3,hw1,hw2,hw3,rfl⟩⟩,⟨rfl, .inl (.inl rfl), .inl (.inl (by simp))⟩,by omega⟩⟩⟩⟩⟩⟩
    have:=List.mem_of_getElem? hs
    simp at this
    omega
  ·rintro toks ⟨htk,hto⟩
   refine ko (X:=List Region) [0,6,7,8] [6,8] [165] [] (fun l=> l.length≤8∧ ∀r∈l,0≤r.b∧r.b≤n∧0≤r.e∧r.e≤n) (fun l=> [(11,enc l)]) (fun _=> []) [] (fun _=> rfl) (by decide) ?_ ?_
   ·simp[h1]
    intro k hk0 hk1
    refine rz (X:=Int×Value×List Region) [0,6,7,8] [6,8] [] [] [] [] (fun x=> 0≤x.1∧x.1+x.2.2.length≤4∧ ∀r∈x.2.2,0≤r.b∧r.b≤n∧0≤r.e∧r.e≤n) (fun x=> [(11, .own 165 x.2.1),(12,enc x.1)]) (fun x=> [(165, .row x.2.1 bF 4 (x.2.2.map enc))]) (fun x=> x.1.toNat) (k, .slice none 0 0, []) [165] (fun _=> rfl) (by decide) (by decide) ?_ ?_ ?_ ?_
    ·simp;omega
    ·simp
     exact .nilown 165
    ·simp[isNilRow]
    ·rintro⟨k,v,l⟩ ⟨q1,q2,q3⟩
     simp only at q1 q2 q3
     simp[h1,h6]
     refine⟨fun hk=> ⟨by omega,fun u hu z _ _=> ⟨trivial,fun ty=> ⟨by simp only[InR];omega,by simp only[InR];omega,by omega,fun w hw=> ⟨by simp only[InR];omega,fun b14=> ?_⟩⟩⟩⟩,fun hk=> ⟨l,⟨by omega,q3⟩,jw bF (by simp[F4])⟩⟩
     have hr:0≤u∧u≤n∧0≤u+1+w∧u+1+w≤n:=by omega
     generalize u+1+w=e' at*
     refine ko (X:=List Pair) [0,6,7,8,11,12,14] [6,8,165] [] [] (fun _=> True) (fun _=> []) (fun kv=> [(14, .box b14 [.v (.string ty), .v (.int .i64 u), .v (.int .i64 e'),enc kv])]) [14] (fun _=> rfl) (by decide) ?_ ?_
     ·simp[h1,I5,qm,uc]
      exact fun _ _ _ _ q hq0 hq1=> ⟨hq0,hq1,fun s _=> ⟨[⟨⟨#[110]⟩,s⟩], .inl (.inl rfl)⟩⟩
     ·rintro kv -
      simp only[NP,L2]
      simp
      refine dY (X:=Bool) [0,6,7,8,11,12,14] [6,8,14,165] (fun _=> True) (fun x=> [(15,enc x)]) (fun _=> []) ?_ ?_
      ·simp[-Bool.exists_bool]
       intro _
       refine aq (X:=Bool) [0,6,7,8,11,12,14,101] [6,8,14,165] l.length (fun _ _=> True) (fun x=> [(15,enc x)]) (fun _=> []) false (by simp) (by simp) (by omega) (by simp) (by simp) trivial (by simp) (by simp) ?_ ?_
       ·rintro j cr hj -
        obtain⟨x,hx⟩:=fb hj
        obtain⟨_,hgx⟩:=List.getElem?_eq_some_iff.1 hx
        simp[hj,hx,hgx, -Bool.exists_bool]
        exact fun _ _ _ _=> ⟨fun _ _ _=> ⟨_,(Bool.not_not _).symm⟩,fun _ _=> ⟨_,(Bool.not_not _).symm⟩⟩
       ·rintro cr -
        simp[-Bool.exists_bool]
      ·rintro cr -
       simp[-Bool.exists_bool]
       refine⟨fun _=> ⟨by omega,by omega,fun v2=> ⟨by simp only[InR];omega,k -1,v2,l++ [⟨ty,u,e',kv⟩],⟨by omega,by simp;omega,fun r hrr=> ?_⟩,⟨⟨.same _,rfl⟩, .inl (.inl (by simp))⟩,by omega⟩⟩,fun _=> ⟨by simp only[InR];omega,k -1,v,l,⟨by omega,by omega,q3⟩,⟨⟨.same _,rfl⟩, .inl (.inl rfl)⟩,by omega⟩⟩
       rcases List.mem_append.1 hrr with hrr | hrr
       ·exact q3 r hrr
       ·simp at hrr;subst hrr;exact hr
   ·rintro rg ⟨hr1,hr2⟩
    simp[h7,h8]
    refine⟨by simp only[Gz];omega,fun rs ⟨hs1,hs2⟩=> ⟨⟨at_,toks, [t],rs, [], [], []⟩,by simp[Si],by simp only[rG];omega,fun c hc=> ?_⟩⟩
    obtain⟨ns,rfl,hns,hnd⟩:=hc
    simp only at hnd
    simp[LW]
    refine ko (X:=List Int×List B) [6,8] [6] [] [] (fun x=> x.1.length≤n∧x.2.length≤n∧ ∀h∈x.1,h≤n) (fun _=> []) (fun x=> [(8, .box b8 [enc at_,enc toks,enc [t],enc rs,enc ns,enc x.1,enc x.2])]) [8] (fun _=> rfl) (by decide) ?_ ?_
    ·simp[h1,h9]
     refine fun z _ _=> ⟨fun _=> ⟨⟨at_,toks, [t],rs,ns, [], []⟩,by simp[LW],by simp only[rG];omega,fun c hc=> ?_⟩,fun _=> ⟨[], [],⟨by simp,by simp,by simp⟩, .inl ⟨rfl,rfl⟩⟩⟩
     obtain⟨hs,rl,rfl,g1,g2,g3⟩:=hc
     simp only at g1 g2 g3
     simp[Qp]
     exact⟨hs,rl,⟨by omega,by omega,fun h hh=> by have:=g3 h hh;omega⟩, .inl (.inl ⟨rfl,rfl⟩)⟩
    ·rintro⟨hs,rl⟩ ⟨p1,p2,p3⟩
     simp only at p1 p2 p3
     simp
     refine d7 ⟨at_,toks, [t],rs,ns,hs,rl⟩ (.same _) ⟨?_,hat,hto⟩
     refine⟨⟨ht1,by omega,by show t.e=(toks.length:Int);omega⟩,by simp,by simp only;omega,by simp,by simp only;omega,by simp only;omega,by simp only;omega,by simp only;omega,by simp only;omega,fun r hr=> ?_,fun m hm=> ?_,hnd.2,fun h hh=> ?_⟩
     ·have:=hr2 r (hs2 r hr)
      simp only
      omega
     ·have:=hnd.1 m hm
      simp only
      omega
     ·have:=p3 h hh
      simp only
      omega
end Go.Gv

namespace Go.Gv
open Go.Proofs
theorem BF:Tri Tryz.prog gS s_m_Mod.pt:=
 ac (S:=bH []) (ag ae) JG (fun _=> Nat.le_of_ble_eq_true rfl) (Lo)
theorem kp:Tri Tryz.prog am s_m_Next.pt:=IY (S:=bH [(gS,s_m_Mod)]) (ag (ab BF ae)) rfl yK (by decide)
theorem LC:Tri Tryz.prog uY s_m_New.pt:=Lz (Fi (S:=bH []) (ag ae) JF (by decide) Ln)
theorem wx:Tri Tryz.prog ff s_r04_First.pt:=
 ac (S:=bH []) (ag ae) B3 (fun _=> Nat.le_of_ble_eq_true rfl) (C8)
theorem Fq:Tri Tryz.prog mi s_r04_Next.pt:=
 ac (S:=bH [(ff,s_r04_First)]) (ag (ab wx ae)) DN (fun _=> Nat.le_of_ble_eq_true rfl) (E7 rfl)
theorem ee:Tri Tryz.prog az s_r04_ValidName.pt:=
 ac (S:=bH [(ff,s_r04_First),(mi,s_r04_Next)]) (ag (ab wx (ab Fq ae))) vM (fun _=> Nat.le_of_ble_eq_true rfl) (wK rfl rfl)
theorem Dr:Tri Tryz.prog kP s_r01_Units.pt:=
 ac (S:=bH []) (ag ae) B5 (fun _=> Nat.le_of_ble_eq_true rfl) (Da)
theorem Dq:Tri Tryz.prog kO s_r01_Valid.pt:=
 ac (S:=bH [(kP,s_r01_Units)]) (ag (ab Dr ae)) B4 (fun _=> Nat.le_of_ble_eq_true rfl) (C9 rfl)
theorem jW:Tri Tryz.prog bv s_r04_ValidValue.pt:=
 ac (S:=bH [(kO,s_r01_Valid)]) (ag (ab Dq ae)) ut (fun _=> Nat.le_of_ble_eq_true rfl) (vr rfl)
theorem Dp:Tri Tryz.prog kN s_r05_Parse.pt:=
 ac (S:=bH [(bv,s_r04_ValidValue)]) (ag (ab jW ae)) B2 (fun _=> Nat.le_of_ble_eq_true rfl) (C7 rfl)
theorem Fo:Tri Tryz.prog iO s_r06_sign.pt:=
 ac (S:=bH []) (ag ae) DL (fun _=> Nat.le_of_ble_eq_true rfl) (E5)
theorem z6:Tri Tryz.prog eG s_r06_compare.pt:=
 ac (S:=bH []) (ag ae) yJ (fun _=> Nat.le_of_ble_eq_true rfl) (zU)
theorem kA:Tri Tryz.prog bD s_r06_CompareRegions.pt:=
 ac (S:=bH [(iO,s_r06_sign),(eG,s_r06_compare)]) (ag (ab Fo (ab z6 ae))) pM (fun _=> Nat.le_of_ble_eq_true rfl) (qe rfl rfl)
theorem vy:Tri Tryz.prog eW s_r06_Attributes.pt:=
 ac (S:=bH [(az,s_r04_ValidName)]) (ag (ab ee ae)) ur (fun _=> Nat.le_of_ble_eq_true rfl) (vq rfl)
theorem Dm:Tri Tryz.prog kL s_r06_Value.pt:=
 ac (S:=bH [(kN,s_r05_Parse),(bv,s_r04_ValidValue)]) (ag (ab Dp (ab jW ae))) BY (fun _=> Nat.le_of_ble_eq_true rfl) (C3 rfl rfl)
theorem ww:Tri Tryz.prog fe s_r06_pairs.pt:=
 ac (S:=bH [(az,s_r04_ValidName),(bv,s_r04_ValidValue)]) (ag (ab ee (ab jW ae))) BW (fun _=> Nat.le_of_ble_eq_true rfl) (C0 rfl rfl)
theorem t7:Tri Tryz.prog eo s_r06_within.pt:=
 ac (S:=bH []) (ag ae) Aa (fun _=> Nat.le_of_ble_eq_true rfl) (Bl)
theorem Fp:Tri Tryz.prog mh s_r06_bare.pt:=
 ac (S:=bH []) (ag ae) DM (fun _=> Nat.le_of_ble_eq_true rfl) (E6)
theorem BC:Tri Tryz.prog gR s_r06_TextAt.pt:=
 ac (S:=bH []) (ag ae) Ad (fun _=> Nat.le_of_ble_eq_true rfl) (Bo)
theorem xT:Tri Tryz.prog gB s_r06_FindText.pt:=
 ac (S:=bH []) (ag ae) wZ (fun _=> Nat.le_of_ble_eq_true rfl) (xH)
theorem ql:Tri Tryz.prog dm s_r06_sameAttributes.pt:=
 ac (S:=bH []) (ag ae) pL (fun _=> Nat.le_of_ble_eq_true rfl) (qd)
theorem BB:Tri Tryz.prog jz s_r06_cyclic.pt:=
 ac (S:=bH []) (ag ae) Ac (fun _=> Nat.le_of_ble_eq_true rfl) (Bn)
theorem BA:Tri Tryz.prog jy s_r06_tokens.pt:=
 ac (S:=bH [(kL,s_r06_Value)]) (ag (ab Dm ae)) Ab (fun _=> Nat.le_of_ble_eq_true rfl) (Bm rfl)
theorem Dk:Tri Tryz.prog kJ s_r06_texts.pt:=
 ac (S:=bH [(az,s_r04_ValidName),(fe,s_r06_pairs)]) (ag (ab ee (ab ww ae))) BV (fun _=> Nat.le_of_ble_eq_true rfl) (CZ rfl rfl)
theorem zZ:Tri Tryz.prog iv s_r06_regions.pt:=
 ac (S:=bH [(az,s_r04_ValidName),(fe,s_r06_pairs),(eo,s_r06_within),(bD,s_r06_CompareRegions)]) (ag (ab ee (ab ww (ab t7 (ab kA ae))))) yI (fun _=> Nat.le_of_ble_eq_true rfl) (zT rfl rfl rfl rfl)
theorem Do:Tri Tryz.prog kM s_r06_Nodes.pt:=
 ac (S:=bH [(az,s_r04_ValidName),(eo,s_r06_within)]) (ag (ab ee (ab t7 ae))) B1 (fun _=> Nat.le_of_ble_eq_true rfl) (C6 rfl rfl)
theorem Dl:Tri Tryz.prog kK s_r06_heads.pt:=
 ac (S:=bH [(az,s_r04_ValidName),(mh,s_r06_bare),(gR,s_r06_TextAt),(jz,s_r06_cyclic)]) (ag (ab ee (ab Fp (ab BC (ab BB ae))))) BX (fun _=> Nat.le_of_ble_eq_true rfl) (C1 rfl rfl rfl rfl)
theorem xS:Tri Tryz.prog gA s_r06_Validate.pt:=
 ac (S:=bH [(eW,s_r06_Attributes),(jy,s_r06_tokens),(kJ,s_r06_texts),(iv,s_r06_regions),(kM,s_r06_Nodes),(kK,s_r06_heads)]) (ag (ab vy (ab BA (ab Dk (ab zZ (ab Do (ab Dl ae))))))) wY (fun _=> Nat.le_of_ble_eq_true rfl) (xG rfl rfl rfl rfl rfl rfl)
theorem Dn:Tri Tryz.prog iZ s_r06_Valid.pt:=
 ac (S:=bH [(gA,s_r06_Validate)]) (ag (ab xS ae)) BZ (fun _=> Nat.le_of_ble_eq_true rfl) (C5 rfl)
theorem t8:Tri Tryz.prog ep s_r06_SortRegions.pt:=
 ac (S:=bH [(bD,s_r06_CompareRegions)]) (ag (ab kA ae)) sB (fun _=> Nat.le_of_ble_eq_true rfl) (tJ rfl)
theorem xR:Tri Tryz.prog eV s_r06_allHeads.pt:=
 ac (S:=bH []) (ag ae) wX (fun _=> Nat.le_of_ble_eq_true rfl) (xF)
theorem BD:Tri Tryz.prog jA s_r06_Concat.pt:=
 ac (S:=bH [(iZ,s_r06_Valid),(dm,s_r06_sameAttributes),(gB,s_r06_FindText),(eV,s_r06_allHeads)]) (ag (ab Dn (ab ql (ab xT (ab xR ae))))) Ae (fun _=> Nat.le_of_ble_eq_true rfl) (Bp rfl rfl rfl rfl)
theorem I3:Tri Tryz.prog qZ s_m_word.pt:=
 ac (S:=bH []) (ag ae) HT (fun _=> Nat.le_of_ble_eq_true rfl) (IK)
theorem LB:Tri Tryz.prog uX s_m_tag.pt:=
 ac (S:=bH []) (ag ae) JE (fun _=> Nat.le_of_ble_eq_true rfl) (Lm)
theorem BE:Tri Tryz.prog jB s_m_features.pt:=
 ac (S:=bH []) (ag ae) Af (fun _=> Nat.le_of_ble_eq_true rfl) (Bq)
theorem I4:Tri Tryz.prog q7 s_m_Type.pt:=
 ac (S:=bH [(gS,s_m_Mod)]) (ag (ab BF ae)) HU (fun _=> Nat.le_of_ble_eq_true rfl) (IL rfl)
theorem xW:Tri Tryz.prog gE s_m_Attributes.pt:=
 ac (S:=bH []) (ag ae) w6 (fun _=> Nat.le_of_ble_eq_true rfl) (xI)
theorem xU:Tri Tryz.prog gC s_m_nodes.pt:=
 wv (S:=bH [(am,s_m_Next)]) (ag (ab kp ae)) w4 (by decide) (Hu rfl)
theorem xV:Tri Tryz.prog gD s_m_heads.pt:=
 wv (S:=bH [(am,s_m_Next)]) (ag (ab kp ae)) w5 (by decide) (Hv rfl)
theorem ua:Tri Tryz.prog dv s_m_Document.pt:=
 ac (S:=bH [(am,s_m_Next),(gE,s_m_Attributes),(qZ,s_m_word),(uX,s_m_tag),(jB,s_m_features),(q7,s_m_Type),(ep,s_r06_SortRegions),(gC,s_m_nodes),(gD,s_m_heads)]) (ag (ab kp (ab xW (ab I3 (ab LB (ab BE (ab I4 (ab t8 (ab xU (ab xV ae)))))))))) sD (fun _=> Nat.le_of_ble_eq_true rfl) (Bt rfl rfl rfl rfl rfl rfl rfl rfl rfl)
theorem wQ:Tri Tryz.prog fQ s_m_Corpus.pt:=
 ac (S:=bH [(am,s_m_Next),(dv,s_m_Document),(jA,s_r06_Concat)]) (ag (ab kp (ab ua (ab BD ae)))) vO (fun _=> Nat.le_of_ble_eq_true rfl) (E9 rfl rfl rfl)
end Go.Gv
