/- A part of the framework and of the walks: W15 T20 W16 T21 W18 W9 W19 Asm. -/
import Derived.Test.YticbieanhfdnoaaGreatDoorGb23
import Derived.Test.YticbieanhfdnoaaGreatDoorGb20
import Derived.Test.YticbieanhfdnoaaGreatDoorGb21
set_option linter.unusedSimpArgs false
set_option linter.unusedVariables false
set_option maxRecDepth 100000

namespace Go.Gv
open Cod (enc dec)
variable {S S0:Nat→Spc}
theorem Mz:Md Ai y9 S:=by
 intro l
 simp[Ai,y9, -List.map_take,qJ,ux]
 omega
def TR (c:Corpus):List D:= [enc c.attrs,enc c.toks,enc c.texts,enc c.regs, .v (.slice none 0 0), .v (.slice none 0 0), .v (.slice none 0 0)]
def M8 (c:Corpus):List D:= [enc c.attrs,enc c.toks,enc c.texts,enc c.regs,enc c.nodes, .v (.slice none 0 0), .v (.slice none 0 0)]
def RQ (c:Corpus):List D:= [enc c.attrs,enc c.toks,enc c.texts,enc c.regs,enc c.nodes,enc c.heads,enc c.rels]
end Go.Gv

namespace Go.Gv
section
variable {S:Nat→Spc} {σ:Sg} {H:aa} {K:Ex→Sg→aa→Prop}
theorem rW {X:Type} (ks hk gv0 gv:List Nat) (rn0 rn:List (Nat×Nat)) (P:X→Prop) (sl:X→List (Nat×D)) (hp:X→List (Nat×Res)) (m:X→Nat) (x0:X) (ids:List Nat) (hids: ∀x,(hp x).map (·.1)=ids)
 (hi0:QM rn0 (ids++hk) gv0∧ ∀i∈hk,i∉ids→JI rn0 i=i) (hi:QM rn (ids++hk) gv∧ ∀i∈hk,i∉ids→JI rn i=i) {k:Nat} {b:CC} (h0:P x0)
 (hs:rS (G2 gv0 H) (sl x0) σ) (hh:pW (G2 gv0 H) rn0 (hp x0) H)
 (hr: ∀x,P x→vc S b (JO P (fun y=> Mo σ H ks hk gv rn (sl y) (hp y)) m x K) (mS (sl x) (gE ks σ)) (fR (hp x) (hU hk H))):vc S (.loop k b) K σ H:=by
 rw[Ds]
 refine⟨⟨X,P,fun x=> mS (sl x) (gE ks σ),fun x=> fR (hp x) (hU hk H),m⟩,⟨x0,h0,vJ (by rw[hids x0];exact hi0.1) (by rw[hids x0];exact hi0.2) hs (fun _ _=> rfl) hh (fun _ _=> rfl)⟩,fun x hx=> oO b _ _ (fun e σ' H' h=> ?_) (hr x hx)⟩
 cases e with
 | norm=>
   obtain⟨y,h1,h2,h3⟩:=h
   exact⟨y,h1,vJ (by rw[hids y];exact hi.1) (by rw[hids y];exact hi.2) h2.1 h2.2.1 h2.2.2.1 h2.2.2.2,h3⟩
 | ex i=> exact h
 | ret=> exact h
end
end Go.Gv

namespace Go.Gv
open Cod (enc dec)
variable {S S0:Nat→Spc}
def Eg (l:List B):List D:=l.map enc
theorem Ef (a b:B):D.list 1 [.v (.string a), .v (.string b)]= .list 1 (Eg [a,b]):=id rfl
theorem Ke (a b c:B):D.list 1 [.v (.string a), .v (.string b), .v (.string c)]= .list 1 (Eg [a,b,c]):=id rfl
theorem kM (l:List B): (Eg l).length=l.length:=by simp[Eg]
theorem m9 (l:List B) (i:Nat) (d:D): ((Eg l)[i]?=some d)= ∃s,l[i]?=some s∧ .v (.string s)=d:=by
 simp[Eg]
def Mn (n:Nat) (ns:List oz):Prop:=(∀x∈ns,0≤x.b∧x.b≤n∧0≤x.e∧x.e≤n)∧ ∀ (j:Nat) (y:oz),ns[j]?=some y→y.par < j
def DH (c c':Corpus):Prop:= ∃ns,c'= { c with nodes:=ns } ∧ns.length≤6∧Mn c.toks.length ns
def r9 (c:Corpus):Prop:=c.toks.length≤4096
theorem Iw (h1:S ag=s_m_Next):DG lH lp S TR M8 r9 DH:=by
 intro L b c hc
 have hc:c.toks.length≤4096:=hc
 simp[lH,lp,h1,TR]
 intro _ k hk0 hk1
 refine rW (X:=Int×Int×Value×List oz) [0,1,4] [] [] [] [] [] (fun x=> 0≤x.1∧x.1≤c.toks.length∧0≤x.2.1∧2*x.2.1+x.2.2.2.length≤6∧Mn c.toks.length x.2.2.2) (fun x=> [(5,enc x.1),(6,enc x.2.1)]) (fun x=> [(1, .box b [enc c.attrs,enc c.toks,enc c.texts,enc c.regs, .own 61 x.2.2.1, .v (.slice none 0 0), .v (.slice none 0 0)]),(61, .row x.2.2.1 eR 4 (x.2.2.2.map enc))]) (fun x=> x.2.1.toNat) (0,k, .slice none 0 0, []) [1,61] (fun _=> rfl) (by decide) (by decide) ?_ ?_ ?_ ?_
 ·simp[Mn];omega
 ·simp
 ·simp[isNilRow]
  exact .nilown 61
 ·rintro⟨at_,k,v,l⟩ ⟨q1,q2,q3,q4,q5⟩
  simp only at q1 q2 q3 q4 q5
  simp[h1,Ef,kM,m9]
  have fin:Ou M8 b (DH c) (D.tup []) (aj (aj (aj (fun x=> none) 96 none) 61 (some (Res.row v eR 4 (List.map enc l)))) 1 (some (Res.box b [D.list 2 (List.map enc c.attrs),D.list 1 (List.map enc c.toks),D.list 4 (List.map enc c.texts),D.list 4 (List.map enc c.regs),D.own 61 v,D.v (Value.slice none 0 0),D.v (Value.slice none 0 0)]))):=by
   refine⟨{ c with nodes:=l },_,rfl,rfl,?_,⟨l,rfl,by omega,q5⟩⟩
   simp[M8]
   exact jH eR rfl
  refine⟨fun hk=> ⟨fun hat y hy0 hy1=> ⟨by simp only[InR];omega,fun _=> fin,fun hb=> ⟨by simp only[InR];omega,by simp only[InR];omega,by omega,fun y1 hy1'=> ⟨by simp only[InR];omega,fun _ z hz0 hz1=> ⟨hz0,hz1,fun lb hlb=> ⟨by omega,by omega,fun v1=> ?_⟩⟩⟩⟩⟩,fun _=> fin⟩,fun _=> fin⟩
  have hb0:0≤at_+y:=by omega
  generalize at_+y=b' at*
  have he:b'+1+y1≤c.toks.length∧0≤y1:=by omega
  generalize hee:b'+1+y1=e' at*
  have ok1:Mn c.toks.length (l++ [⟨lb,b',e', -1⟩]):=by
   refine⟨fun x hx=> ?_,fun j x hx=> ?_⟩
   ·rcases List.mem_append.1 hx with hx | hx
    ·exact q5.1 x hx
    ·simp at hx;subst hx;simp only;omega
   ·by_cases e:j < l.length
    ·rw[List.getElem?_append_left e] at hx;exact q5.2 j x hx
    ·rw[List.getElem?_append_right (by omega)] at hx
     have hx:=List.mem_of_getElem? hx
     simp at hx;subst hx;simp only;omega
  refine cO (X:=Value×List oz) [0,1,4,6,8] [] (fun x=> x.2.length≤l.length+2∧Mn c.toks.length x.2) (fun _=> []) (fun x=> [(1, .box b [enc c.attrs,enc c.toks,enc c.texts,enc c.regs, .own 61 x.1, .v (.slice none 0 0), .v (.slice none 0 0)]),(61, .row x.1 eR 4 (x.2.map enc))]) ?_ ?_
  ·simp[h1,Ef,kM,m9]
   refine fun u hu0 hu1=> ⟨fun _=> ⟨by simp only[InR];omega,by omega,fun y2 hy2=> ⟨by simp only[InR];omega,fun z2 hz20 hz21=> ⟨hz20,hz21,fun lb2 _=> ⟨by simp only[InR];omega,by simp only[InR];omega,by omega,fun y3 hy3=> ⟨by simp only[InR];omega,by omega,by omega,fun v2=> ⟨v2,l++ [⟨lb,b',e', -1⟩] ++ [⟨lb2,b'+y2,b'+y2+1+y3,l.length⟩],⟨by simp,?_⟩, .inl rfl, .inl ⟨rfl,by simp⟩⟩⟩⟩⟩⟩⟩,fun _=> ⟨v1,l++ [⟨lb,b',e', -1⟩],⟨by simp,ok1⟩, .inl rfl, .inl ⟨rfl,by simp⟩⟩⟩
   refine⟨fun x hx=> ?_,fun j x hx=> ?_⟩
   ·rcases List.mem_append.1 hx with hx | hx
    ·exact ok1.1 x hx
    ·simp at hx;subst hx;simp only;omega
   ·by_cases e:j < (l++ [(⟨lb,b',e', -1⟩:oz)]).length
    ·rw[List.getElem?_append_left e] at hx;exact ok1.2 j x hx
    ·rw[List.getElem?_append_right (by omega)] at hx
     have hx:=List.mem_of_getElem? hx
     simp at hx;subst hx;simp at e;simp only;omega
  ·rintro⟨v2,l2⟩ ⟨r1,r2⟩
   simp only at r1 r2
   simp
   exact⟨by simp only[InR];omega,e',k -1,v2,l2,⟨by omega,by omega,by omega,by omega,r2⟩,⟨⟨rfl,rfl⟩, .inl (.inl rfl), .inl (.inl rfl)⟩,by omega⟩
end Go.Gv

namespace Go.Gv
theorem JN {σ:Sg} {H:aa} (t id:Nat) (x:Value) (el n:Nat) (es:List D) (h1:σ t= .own id x) (h2:H id=some (.row x el n es)):Wk σ H (lQ σ t (.sub id x n 0 es.length)) H:=by
 intro E a w ⟨hd,hN,tp,hw,hr⟩
 refine⟨hd,hN,tp,hw,fun s=> ?_⟩
 unfold lQ
 split
 ·rename_i e
  subst e
  have h3:=hr s
  rw[h1] at h3
  have e1:a.tmps.getD s undef=x:=by
   generalize a.tmps.getD s undef=y at h3
   cases h3;rfl
  obtain⟨xs,⟨_,h4⟩,_⟩:=hw.sat.ok id _ h2
  rw[e1]
  rcases h4 with⟨rfl,h5⟩ | ⟨g,cap,cur,rfl,_,_,h6,h7,_⟩
  ·rw[h5]
   exact .subnil id n
  ·exact .sub id g es.length cap n 0 es.length _ (Nat.zero_le _) (Nat.le_refl _) h6 h7 (fun _=> by simp)
 ·exact hr s
open Cod (enc dec) in
theorem RT {X:Type} [Cod X] {H:aa} {id n hi:Nat} {v:Value} {l:List X} (el:Nat) (h:H id=some (.row v el n (l.map enc))) (hh:hi=l.length) (hn:n=Cod.wd X:=by rfl):FrzTo H (.sub id v n 0 hi) (.list n (l.map enc)):=by
 subst hh
 have e: ((l.map (enc (X:=X))).take l.length).drop 0=l.map enc:=by
  rw[List.drop_zero,List.take_of_length_le (by simp)]
 refine .sub h (by rw[e]) (fun d hd=> ?_) (fun k c c' h1 h2=> ?_)
 ·obtain⟨x,_,rfl⟩:=List.mem_map.1 hd
  exact⟨Cod.kn x,(Cod.wid x).trans hn.symm⟩
 ·rw[e,h2] at h1
  cases h1
  exact .same _
end Go.Gv

namespace Go.Gv
open Cod (enc dec)
variable {S S0:Nat→Spc}
def NX (n:Nat) (hs:List Int) (rs:List B):Prop:=hs.length=n∧rs.length=n∧ ∀h∈hs,h≤n
def Iq (c c':Corpus):Prop:= ∃hs rs,c'= { c with heads:=hs,rels:=rs } ∧hs.length≤c.toks.length∧rs.length≤c.toks.length∧ ∀h∈hs,h≤c.toks.length
theorem Iy (h1:S ag=s_m_Next):DG lJ lu S M8 RQ r9 Iq:=by
 intro L b c hc
 have hc:c.toks.length≤4096:=hc
 simp[lJ,lu,h1,M8]
 intro _
 refine rW (X:=Int×List Int) [0,1,4] [1] [] [27] [] [] (fun x=> 0≤x.1∧x.1≤c.toks.length∧(x.2.length:Int)=x.1∧ ∀y∈x.2,0≤y∧y < c.toks.length) (fun x=> [(5,enc x.2),(6,enc x.1)]) (fun x=> []) (fun x=> c.toks.length -x.1.toNat) (0, []) [] (fun _=> rfl) (by decide) (by decide) ?_ ?_ ?_ ?_
 ·simp
 ·simp
 ·simp
 ·rintro⟨i,l⟩ ⟨q1,q2,q3,q4⟩
  simp only at q1 q2 q3 q4
  simp[h1]
  refine⟨fun hi=> ⟨by simp only[InR];omega,by omega,fun y hy=> ?_⟩,fun hi=> ?_⟩
  ·have e:List.take y.toNat (List.map enc l) ++D.v (.int .i64 i)::List.drop y.toNat (List.map enc l)=(l.take y.toNat++i::l.drop y.toNat).map enc:=by simp
   refine⟨by omega,by omega,by omega,by omega,by omega,by omega,by omega,by omega,by omega,by omega,fun v=> ⟨by simp only[InR];omega,i+1,l.take y.toNat++i::l.drop y.toNat,⟨by omega,by omega,?_,fun z hz=> ?_⟩,⟨?_,rfl⟩,by omega⟩⟩
   ·simp;omega
   ·rcases List.mem_append.1 hz with hz | hz
    ·exact q4 z (List.mem_of_mem_take hz)
    ·rcases List.mem_cons.1 hz with hz | hz
     ·omega
     ·exact q4 z (List.mem_of_mem_drop hz)
   ·rw[e]
    exact jH ci (by simp[G2])
  ·have hil:l.length=c.toks.length:=by omega
   refine⟨by omega,by omega,fun v8=> ⟨by omega,by omega,fun v9=> ?_⟩⟩
   refine cO (X:=Bool×List Int×List B) [1] [1] (fun x=> NX c.toks.length x.2.1 x.2.2) (fun x=> [(8, .sub 40 v8 1 0 c.toks.length),(9, .sub 42 v9 1 0 c.toks.length),(10,enc x.1)]) (fun x=> [(40, .row v8 ci 1 (x.2.1.map enc)),(42, .row v9 ak 1 (x.2.2.map enc))]) ?_ ?_
   ·simp[-Bool.exists_bool]
    intro _
    refine Bl ((JN 8 40 v8 ci 1 _ rfl rfl).trans (JN 9 42 v9 ak 1 _ rfl rfl)) ?_
    simp only[QT]
    refine ar (X:=Bool×List Int×List B) [0,1,5,8,9,43] [1] l.length (fun _ x=> NX c.toks.length x.2.1 x.2.2) (fun x=> [(10,enc x.1)]) (fun x=> [(40, .row v8 ci 1 (x.2.1.map enc)),(42, .row v9 ak 1 (x.2.2.map enc))]) (false,List.replicate c.toks.length 0,List.replicate c.toks.length ⟨#[]⟩) (by simp) (by simp) (by omega) (by simp) (by simp) (by simp[NX]) (by simp) (by simp) ?_ ?_
    ·rintro k ⟨sm,hs,rs⟩ hk ⟨p1,p2,p3⟩
     simp only at p1 p2 p3
     obtain⟨x,hx⟩:=fh hk
     obtain⟨_,hgx⟩:=List.getElem?_eq_some_iff.1 hx
     have hxr:=q4 x (ga hx)
     simp[hk,hx,hgx, -Bool.exists_bool]
     refine⟨by omega,by omega,by omega,fun a ha=> ?_⟩
     have e1: (List.map enc hs).set x.toNat (D.v (Value.int .i64 (-1)))=(hs.set x.toNat (-1)).map enc:=gk hs _ _
     rw[e1]
     have p1': (hs.set x.toNat (-1)).length=c.toks.length:=by simp[p1]
     have p3': ∀h∈hs.set x.toNat (-1),h≤c.toks.length:=fun h hh=> by
      rcases List.mem_or_eq_of_mem_set hh with hh | hh
      ·exact p3 h hh
      ·omega
     generalize hs.set x.toNat (-1)=hs1 at p1' p3' ⊢
     clear p1 p3 ha e1
     refine cO (X:=List Int×List B) [0,1,5,8,9,10,12,43,44,45] [1] (fun x=> NX c.toks.length x.1 x.2) (fun _=> []) (fun x=> [(40, .row v8 ci 1 (x.1.map enc)),(42, .row v9 ak 1 (x.2.map enc))]) ?_ ?_
     ·simp[h1,Ke,kM,m9, -Bool.exists_bool]
      have hlx: ∀ (y:Int),hs1.length=c.toks.length→ ∃z,hs1[x.toNat]?=some z:=fun _ _=> fh (by omega)
      refine⟨fun hk0 y _ _=> ⟨fun _=> ⟨by omega,fun y2 hy2=> ⟨by omega,by omega,fun a ha y3 hy30 hy31=> ⟨hy30,hy31,fun s _=> ⟨by omega,by omega,by omega,fun z _=> ⟨by omega,by omega,by omega,fun z2 _=> ⟨hs1.set x.toNat a,rs.set x.toNat s,⟨by simp[p1'],by simp[p2],fun h hh=> ?_⟩, .inl (gk hs1 _ _), .inl (gk rs _ _)⟩⟩⟩⟩⟩⟩,fun _=> ⟨hs1,rs,⟨p1',p2,p3'⟩, .inl rfl, .inl rfl⟩⟩,fun _=> ⟨hs1,rs,⟨p1',p2,p3'⟩, .inl rfl, .inl rfl⟩⟩
      rcases List.mem_or_eq_of_mem_set hh with hh | hh
      ·exact p3' h hh
      ·have:=q4 a (ga ha)
       omega
     ·rintro⟨hs2,rs2⟩ ⟨r1,r2,r3⟩
      simp only at r1 r2 r3
      simp[-Bool.exists_bool]
      refine⟨fun _=> ⟨by omega,by omega,by omega,fun a _=> ⟨fun _=> ⟨by omega,by omega,by omega,fun a2 _=> ⟨!decide (a2=⟨#[]⟩),hs2,rs2,⟨r1,r2,r3⟩,by simp, .inl rfl, .inl rfl⟩⟩,fun _=> ⟨true,hs2,rs2,⟨r1,r2,r3⟩,by simp, .inl rfl, .inl rfl⟩⟩⟩,fun _=> ⟨true,hs2,rs2,⟨r1,r2,r3⟩,by simp, .inl rfl, .inl rfl⟩⟩
    ·rintro⟨sm,hs,rs⟩ ⟨p1,p2,p3⟩
     simp only at p1 p2 p3
     simp[-Bool.exists_bool]
     exact⟨sm,hs,rs,⟨p1,p2,p3⟩,rfl, .inl rfl, .inl rfl⟩
   ·rintro⟨sm,hs,rs⟩ ⟨p1,p2,p3⟩
    simp only at p1 p2 p3
    simp
    refine⟨fun _=> ⟨{ c with heads:=hs,rels:=rs },_,rfl,rfl,?_,⟨hs,rs,rfl,by omega,by omega,p3⟩⟩,fun _=> ⟨{ c with heads:= [],rels:= [] },_,rfl,rfl,?_,⟨[], [],rfl,by simp,by simp,by simp⟩⟩⟩
    ·simp[RQ]
     exact⟨RT ci rfl p1.symm,RT ak rfl p2.symm⟩
    ·simp[RQ]
end Go.Gv

namespace Go.Gv
open Cod (enc dec)
variable {S S0:Nat→Spc}
abbrev s_m_word:Spc:=cz (a1 Int) (fun n=> 0≤n∧n < 6) (enc (X:=B)) fun _ y=> y∈FM
theorem JQ:aK wF wh S (a1 Int) (fun n=> 0≤n∧n < 6) (enc (X:=B)) fun _ y=> y∈FM:=by
 rintro n hn
 have hn:0≤n∧n < 6:=hn
 simp[wF,wh]
 refine⟨hn.1,hn.2,?_⟩
 have:n=0∨n=1∨n=2∨n=3∨n=4∨n=5:=by omega
 rcases this with rfl | rfl | rfl | rfl | rfl | rfl <;> simp[FM]
abbrev s_m_tag:Spc:=cz (a1 Int) (fun n=> 0≤n∧n < 2) (enc (X:=B)) fun _ y=> y∈Me
theorem My:aK Ah y8 S (a1 Int) (fun n=> 0≤n∧n < 2) (enc (X:=B)) fun _ y=> y∈Me:=by
 rintro n hn
 have hn:0≤n∧n < 2:=hn
 simp[Ah,y8]
 refine⟨hn.1,hn.2,?_⟩
 have:n=0∨n=1:=by omega
 rcases this with rfl | rfl <;> simp[Me]
abbrev s_m_features:Spc:=cz (a1 Int) (fun n=> 0≤n∧n < 4) (enc (X:=B)) fun _ y=> y∈B5
theorem Ch:aK nN nA S (a1 Int) (fun n=> 0≤n∧n < 4) (enc (X:=B)) fun _ y=> y∈B5:=by
 rintro n hn
 have hn:0≤n∧n < 4:=hn
 simp[nN,nA]
 refine⟨hn.1,hn.2,?_⟩
 have:n=0∨n=1∨n=2∨n=3:=by omega
 rcases this with rfl | rfl | rfl | rfl <;> simp[B5]
abbrev s_m_Type:Spc:=cz (a1 Int) bU (enc (X:=B)) kK
theorem JR (h1:S iN=s_m_Mod):aK oo nY S (a1 Int) bU (enc (X:=B)) kK:=by
 rintro n -
 simp[oo,nY,h1]
 have h3:=zu n 3 (by omega)
 refine⟨h3.1,h3.2,?_⟩
 have:wt n 3=0∨wt n 3=1∨wt n 3=2:=by omega
 rcases this with h | h | h <;> simp[h]
abbrev s_m_Attributes:Spc:=cz a0 bU (enc (X:=List Attr)) (fun _ l=> Ot l)
theorem yj:aK lK lw S a0 bU (enc (X:=List Attr)) (fun _ l=> Ot l):=by
 rintro x -
 simp[lK,lw]
 exact dK (Y:=List Attr) [⟨⟨#[119,111,114,100]⟩,false⟩,⟨⟨#[116,97,103]⟩,false⟩,⟨⟨#[102,101,97,116]⟩,true⟩] (by simp) rfl
end Go.Gv

namespace Go.Gv
open Cod (enc dec)
variable {S S0:Nat→Spc}
abbrev s_m_nodes:Spc:=Vd TR M8 r9 DH
abbrev s_m_heads:Spc:=Vd M8 RQ r9 Iq
theorem Lq {H:aa} {id el n:Nat} {v:Value} {d d':D} (h:H id=some (.row v el n [d])) (hd:FrzTo H d d') (hk:d'.kn=true∧d'.cells.length=n):FrzTo H (.own id v) (.list n [d']):=by
 refine .row h rfl (fun e he=> ?_) (fun k c c' h1 h2=> ?_)
 ·simp at he;subst he;exact hk
 ·cases k with
  | zero=> simp at h1 h2;subst h1;subst h2;exact hd
  | succ k=> simp at h1
def K9 (l:List Int):List D:=l.map enc
theorem RJ (a b c d e f g h:Int):D.list 1 [.v (.int .i64 a), .v (.int .i64 b), .v (.int .i64 c), .v (.int .i64 d), .v (.int .i64 e), .v (.int .i64 f), .v (.int .i64 g), .v (.int .i64 h)]= .list 1 (K9 [a,b,c,d,e,f,g,h]):=id rfl
theorem K8 (l:List Int): (K9 l).length=l.length:=by simp[K9]
theorem Ni (l:List Int) (i:Nat) (d:D): ((K9 l)[i]?=some d)= ∃s,l[i]?=some s∧ .v (.int .i64 s)=d:=by
 simp[K9]
theorem J4 {l:List (List B)} {r:List B} (h: ∀x∈l,vF x) (hr:vF r): ∀x∈l++ [r],vF x:=fun x hx=> by
 rcases List.mem_append.1 hx with hx | hx
 ·exact h x hx
 ·rw[List.mem_singleton] at hx;rw[hx];exact hr
theorem Ci (h1:S ag=s_m_Next) (h2:S gL=s_m_Attributes) (h3:S rD=s_m_word) (h4:S vq=s_m_tag) (h5:S jM=s_m_features)
 (h6:S jN=s_m_Type) (h7:S ew=s_r06_SortRegions) (h8:S gJ=s_m_nodes) (h9:S gK=s_m_heads):
 aK i9 iS S (aT (a2 B Int)) (fun x=> 1≤x.2.2∧x.2.2≤1000) (enc (X:=Corpus)) (fun _ c=> FT c∧DK c):=by
 rintro⟨L,name,most⟩ hm
 have hm:1≤most∧most≤1000:=hm
 simp[i9,iS,h1,h2]
 refine fun b6=> ⟨by omega,fun y hy=> ⟨by simp only[InR];omega,trivial,fun at_ hat v26 b8=> ?_⟩⟩
 have hal:at_.length=3:=by rw[show at_=fW from hat];rfl
 obtain⟨n,hn0,hn⟩: ∃n:Nat,1+y=(n:Int)∧1≤n∧n≤1000:=⟨(1+y).toNat,by omega,by omega⟩
 rw[hn0]
 refine kF (X:=rR) [0,6,7,8] [6] [26] [] (fun t=> t.b=0∧t.e=n) (fun _=> []) (fun t=> [(8, .box b8 [enc at_, .v (.slice none 0 0),enc [t], .v (.slice none 0 0), .v (.slice none 0 0), .v (.slice none 0 0), .v (.slice none 0 0)])]) [8] (fun _=> rfl) (by decide) ?_ ?_
 ·simp[h1,Ke,kM,m9]
  refine fun z _ _=> ⟨fun _ u hu0 hu1=> ⟨hu0,hu1,fun s _=> ⟨⟨name,0,n, [⟨⟨#[121,101,97,114]⟩,s⟩]⟩,⟨rfl,rfl⟩, .inl (Lq (el:=eQ) (by simp[G2]) (.same _) ⟨rfl,rfl⟩)⟩⟩,fun _=> ⟨⟨name,0,n, []⟩,⟨rfl,rfl⟩, .inl (Lq (el:=eQ) (by simp[G2];rfl) ?_ ⟨rfl,rfl⟩)⟩⟩
  rw[dq,dq,dq,dq]
  exact⟨.same _, .same _, .same _, .nil _, .same _⟩
 ·rintro t ⟨ht1,ht2⟩
  refine kF (X:=List (List B)) [0,6,7,8] [6] [66] [] (fun l=> l.length=n∧ ∀r∈l,vF r) (fun _=> []) (fun l=> [(8, .box b8 [enc at_,enc l,enc [t], .v (.slice none 0 0), .v (.slice none 0 0), .v (.slice none 0 0), .v (.slice none 0 0)])]) [8] (fun _=> rfl) (by decide) ?_ ?_
  ·simp[h1]
   refine rW (X:=Int×Value×List (List B)) [0,6,7,8] [6] [] [] [] [] (fun x=> 0≤x.1∧x.1≤n∧(x.2.2.length:Int)=x.1∧ ∀r∈x.2.2,vF r) (fun x=> [(9,enc x.1)]) (fun x=> [(8, .box b8 [enc at_, .own 66 x.2.1,enc [t], .v (.slice none 0 0), .v (.slice none 0 0), .v (.slice none 0 0), .v (.slice none 0 0)]),(66, .row x.2.1 dj 1 (x.2.2.map enc))]) (fun x=> n -x.1.toNat) (0, .slice none 0 0, []) [8,66] (fun _=> rfl) (by decide) (by decide) ?_ ?_ ?_ ?_
   ·simp
   ·simp
   ·simp[isNilRow]
    exact .nilown 66
   ·rintro⟨i,v,l⟩ ⟨q1,q2,q3,q4⟩
    simp only at q1 q2 q3 q4
    simp[h1,h3,h4,h5,RJ,K8,Ni]
    refine⟨fun hi y hy0 hy1=> ?_,fun hi=> ⟨l,⟨by omega,q4⟩, .inl (jH dj (by simp[G2]))⟩⟩
    have a1:y.tmod 8=y % 8:=Int.tmod_eq_emod_of_nonneg hy0
    have a2:y.tdiv 8=y/8:=Int.tdiv_eq_ediv_of_nonneg hy0
    have a3: (y/8).tmod 2=(y/8) % 2:=Int.tmod_eq_emod_of_nonneg (by omega)
    have a4:y.tdiv 12=y/12:=Int.tdiv_eq_ediv_of_nonneg hy0
    rw[a1,a2,a3,a4]
    refine⟨by omega,by omega,fun s hs=> ⟨?_,fun w1 hw1=> ⟨by simp only[InR];omega,by omega,fun w2 hw2=> ⟨by simp only[InR];omega,by omega,fun w3 hw3=> ⟨by omega,by omega,fun v2=> ⟨by simp only[InR];omega,i+1,v2,l++ [[w1,w2,w3]],⟨by omega,by omega,by simp;omega,J4 q4 ⟨w1,w2,w3,hw1,hw2,hw3,rfl⟩⟩,⟨rfl, .inl (.inl rfl), .inl (.inl (by simp))⟩,by omega⟩⟩⟩⟩⟩⟩
    have:=List.mem_of_getElem? hs
    simp at this
    omega
  ·rintro toks ⟨htk,hto⟩
   refine kF (X:=List Region) [0,6,7,8] [6,8] [165] [] (fun l=> l.length≤8∧ ∀r∈l,0≤r.b∧r.b≤n∧0≤r.e∧r.e≤n) (fun l=> [(11,enc l)]) (fun _=> []) [] (fun _=> rfl) (by decide) ?_ ?_
   ·simp[h1]
    intro k hk0 hk1
    refine rW (X:=Int×Value×List Region) [0,6,7,8] [6,8] [] [] [] [] (fun x=> 0≤x.1∧x.1+x.2.2.length≤4∧ ∀r∈x.2.2,0≤r.b∧r.b≤n∧0≤r.e∧r.e≤n) (fun x=> [(11, .own 165 x.2.1),(12,enc x.1)]) (fun x=> [(165, .row x.2.1 bG 4 (x.2.2.map enc))]) (fun x=> x.1.toNat) (k, .slice none 0 0, []) [165] (fun _=> rfl) (by decide) (by decide) ?_ ?_ ?_ ?_
    ·simp;omega
    ·simp
     exact .nilown 165
    ·simp[isNilRow]
    ·rintro⟨k,v,l⟩ ⟨q1,q2,q3⟩
     simp only at q1 q2 q3
     simp[h1,h6]
     refine⟨fun hk=> ⟨by omega,fun u hu z _ _=> ⟨trivial,fun ty=> ⟨by simp only[InR];omega,by simp only[InR];omega,by omega,fun w hw=> ⟨by simp only[InR];omega,fun b14=> ?_⟩⟩⟩⟩,fun hk=> ⟨l,⟨by omega,q3⟩,jH bG (by simp[G2])⟩⟩
     have hr:0≤u∧u≤n∧0≤u+1+w∧u+1+w≤n:=by omega
     generalize u+1+w=e' at*
     refine kF (X:=List Pair) [0,6,7,8,11,12,14] [6,8,165] [] [] (fun _=> True) (fun _=> []) (fun kv=> [(14, .box b14 [.v (.string ty), .v (.int .i64 u), .v (.int .i64 e'),enc kv])]) [14] (fun _=> rfl) (by decide) ?_ ?_
     ·simp[h1,Ef,kM,m9]
      exact fun _ _ _ _ q hq0 hq1=> ⟨hq0,hq1,fun s _=> ⟨[⟨⟨#[110]⟩,s⟩], .inl (.inl rfl)⟩⟩
     ·rintro kv -
      simp only[Pb,Ne]
      simp
      refine cO (X:=Bool) [0,6,7,8,11,12,14] [6,8,14,165] (fun _=> True) (fun x=> [(15,enc x)]) (fun _=> []) ?_ ?_
      ·simp[-Bool.exists_bool]
       intro _
       refine ar (X:=Bool) [0,6,7,8,11,12,14,101] [6,8,14,165] l.length (fun _ _=> True) (fun x=> [(15,enc x)]) (fun _=> []) false (by simp) (by simp) (by omega) (by simp) (by simp) trivial (by simp) (by simp) ?_ ?_
       ·rintro j cr hj -
        obtain⟨x,hx⟩:=fh hj
        obtain⟨_,hgx⟩:=List.getElem?_eq_some_iff.1 hx
        simp[hj,hx,hgx, -Bool.exists_bool]
        exact fun _ _ _ _=> ⟨fun _ _ _=> ⟨_,(Bool.not_not _).symm⟩,fun _ _=> ⟨_,(Bool.not_not _).symm⟩⟩
       ·rintro cr -
        simp[-Bool.exists_bool]
      ·rintro cr -
       simp[-Bool.exists_bool]
       refine⟨fun _=> ⟨by omega,by omega,fun v2=> ⟨by simp only[InR];omega,k -1,v2,l++ [⟨ty,u,e',kv⟩],⟨by omega,by simp;omega,fun r hrr=> ?_⟩,⟨⟨.same _,rfl⟩, .inl (.inl (by simp))⟩,by omega⟩⟩,fun _=> ⟨by simp only[InR];omega,k -1,v,l,⟨by omega,by omega,q3⟩,⟨⟨.same _,rfl⟩, .inl (.inl rfl)⟩,by omega⟩⟩
       rcases List.mem_append.1 hrr with hrr | hrr
       ·exact q3 r hrr
       ·simp at hrr;subst hrr;exact hr
   ·rintro rg ⟨hr1,hr2⟩
    simp[h7,h8]
    refine⟨by simp only[HA];omega,fun rs ⟨hs1,hs2⟩=> ⟨⟨at_,toks, [t],rs, [], [], []⟩,by simp[TR],by simp only[r9];omega,fun c hc=> ?_⟩⟩
    obtain⟨ns,rfl,hns,hnd⟩:=hc
    simp only at hnd
    simp[M8]
    refine kF (X:=List Int×List B) [6,8] [6] [] [] (fun x=> x.1.length≤n∧x.2.length≤n∧ ∀h∈x.1,h≤n) (fun _=> []) (fun x=> [(8, .box b8 [enc at_,enc toks,enc [t],enc rs,enc ns,enc x.1,enc x.2])]) [8] (fun _=> rfl) (by decide) ?_ ?_
    ·simp[h1,h9]
     refine fun z _ _=> ⟨fun _=> ⟨⟨at_,toks, [t],rs,ns, [], []⟩,by simp[M8],by simp only[r9];omega,fun c hc=> ?_⟩,fun _=> ⟨[], [],⟨by simp,by simp,by simp⟩, .inl ⟨rfl,rfl⟩⟩⟩
     obtain⟨hs,rl,rfl,g1,g2,g3⟩:=hc
     simp only at g1 g2 g3
     simp[RQ]
     exact⟨hs,rl,⟨by omega,by omega,fun h hh=> by have:=g3 h hh;omega⟩, .inl (.inl ⟨rfl,rfl⟩)⟩
    ·rintro⟨hs,rl⟩ ⟨p1,p2,p3⟩
     simp only at p1 p2 p3
     simp
     refine dK ⟨at_,toks, [t],rs,ns,hs,rl⟩ (.same _) ⟨?_,hat,hto⟩
     refine⟨⟨ht1,by omega,by show t.e=(toks.length:Int);omega⟩,by simp,by simp only;omega,by simp,by simp only;omega,by simp only;omega,by simp only;omega,by simp only;omega,by simp only;omega,fun r hr=> ?_,fun m hm=> ?_,hnd.2,fun h hh=> ?_⟩
     ·have:=hr2 r (hs2 r hr)
      simp only
      omega
     ·have:=hnd.1 m hm
      simp only
      omega
     ·have:=p3 h hh
      simp only
      omega
end Go.Gv

namespace Go.Gv
open Go.Proofs
theorem Cs:Tri Tryz.prog iN s_m_Mod.pt:=
 ac (S:=bB []) (ah ae) KM (fun _=> Nat.le_of_ble_eq_true rfl) (MA)
theorem eH:Tri Tryz.prog ag s_m_Next.pt:=J3 (S:=bB [(iN,s_m_Mod)]) (ah (ab Cs ae)) rfl zn (by decide)
theorem MO:Tri Tryz.prog r6 s_m_New.pt:=ML (Gc (S:=bB []) (ah ae) KL (by decide) Mz)
theorem wV:Tri Tryz.prog fl s_r04_First.pt:=
 ac (S:=bB []) (ah ae) CQ (fun _=> Nat.le_of_ble_eq_true rfl) (DV)
theorem Gk:Tri Tryz.prog mC s_r04_Next.pt:=
 ac (S:=bB [(fl,s_r04_First)]) (ah (ab wV ae)) EE (fun _=> Nat.le_of_ble_eq_true rfl) (F0 rfl)
theorem ei:Tri Tryz.prog az s_r04_ValidName.pt:=
 ac (S:=bB [(fl,s_r04_First),(mC,s_r04_Next)]) (ah (ab wV (ab Gk ae))) wk (fun _=> Nat.le_of_ble_eq_true rfl) (xc rfl rfl)
theorem Ee:Tri Tryz.prog k9 s_r01_Units.pt:=
 ac (S:=bB []) (ah ae) CS (fun _=> Nat.le_of_ble_eq_true rfl) (DX)
theorem Ed:Tri Tryz.prog k8 s_r01_Valid.pt:=
 ac (S:=bB [(k9,s_r01_Units)]) (ah (ab Ee ae)) CR (fun _=> Nat.le_of_ble_eq_true rfl) (DW rfl)
theorem j9:Tri Tryz.prog bw s_r04_ValidValue.pt:=
 ac (S:=bB [(k8,s_r01_Valid)]) (ah (ab Ed ae)) uQ (fun _=> Nat.le_of_ble_eq_true rfl) (vP rfl)
theorem Ec:Tri Tryz.prog kZ s_r05_Parse.pt:=
 ac (S:=bB [(bw,s_r04_ValidValue)]) (ah (ab j9 ae)) CP (fun _=> Nat.le_of_ble_eq_true rfl) (DU rfl)
theorem Gi:Tri Tryz.prog iX s_r06_sign.pt:=
 ac (S:=bB []) (ah ae) EC (fun _=> Nat.le_of_ble_eq_true rfl) (FY)
theorem AN:Tri Tryz.prog eM s_r06_compare.pt:=
 ac (S:=bB []) (ah ae) zm (fun _=> Nat.le_of_ble_eq_true rfl) (AG)
theorem kL:Tri Tryz.prog bE s_r06_CompareRegions.pt:=
 ac (S:=bB [(iX,s_r06_sign),(eM,s_r06_compare)]) (ah (ab Gi (ab AN ae))) qk (fun _=> Nat.le_of_ble_eq_true rfl) (qD rfl rfl)
theorem vV:Tri Tryz.prog fa s_r06_Attributes.pt:=
 ac (S:=bB [(az,s_r04_ValidName)]) (ah (ab ei ae)) uP (fun _=> Nat.le_of_ble_eq_true rfl) (vO rfl)
theorem D9:Tri Tryz.prog kX s_r06_Value.pt:=
 ac (S:=bB [(kZ,s_r05_Parse),(bw,s_r04_ValidValue)]) (ah (ab Ec (ab j9 ae))) CM (fun _=> Nat.le_of_ble_eq_true rfl) (DR rfl rfl)
theorem wU:Tri Tryz.prog fk s_r06_pairs.pt:=
 ac (S:=bB [(az,s_r04_ValidName),(bw,s_r04_ValidValue)]) (ah (ab ei (ab j9 ae))) CK (fun _=> Nat.le_of_ble_eq_true rfl) (DP rfl rfl)
theorem uy:Tri Tryz.prog eu s_r06_within.pt:=
 ac (S:=bB []) (ah ae) AQ (fun _=> Nat.le_of_ble_eq_true rfl) (Ca)
theorem Gj:Tri Tryz.prog mB s_r06_bare.pt:=
 ac (S:=bB []) (ah ae) ED (fun _=> Nat.le_of_ble_eq_true rfl) (FZ)
theorem Cp:Tri Tryz.prog gY s_r06_TextAt.pt:=
 ac (S:=bB []) (ah ae) AT (fun _=> Nat.le_of_ble_eq_true rfl) (Cf)
theorem yw:Tri Tryz.prog gI s_r06_FindText.pt:=
 ac (S:=bB []) (ah ae) xt (fun _=> Nat.le_of_ble_eq_true rfl) (yi)
theorem qK:Tri Tryz.prog dt s_r06_sameAttributes.pt:=
 ac (S:=bB []) (ah ae) qj (fun _=> Nat.le_of_ble_eq_true rfl) (qC)
theorem Co:Tri Tryz.prog jK s_r06_cyclic.pt:=
 ac (S:=bB []) (ah ae) AS (fun _=> Nat.le_of_ble_eq_true rfl) (Ce)
theorem Cn:Tri Tryz.prog jJ s_r06_tokens.pt:=
 ac (S:=bB [(kX,s_r06_Value)]) (ah (ab D9 ae)) AR (fun _=> Nat.le_of_ble_eq_true rfl) (Cb rfl)
theorem D7:Tri Tryz.prog kV s_r06_texts.pt:=
 ac (S:=bB [(az,s_r04_ValidName),(fk,s_r06_pairs)]) (ah (ab ei (ab wU ae))) CJ (fun _=> Nat.le_of_ble_eq_true rfl) (DO rfl rfl)
theorem AM:Tri Tryz.prog iC s_r06_regions.pt:=
 ac (S:=bB [(az,s_r04_ValidName),(fk,s_r06_pairs),(eu,s_r06_within),(bE,s_r06_CompareRegions)]) (ah (ab ei (ab wU (ab uy (ab kL ae))))) zl (fun _=> Nat.le_of_ble_eq_true rfl) (AF rfl rfl rfl rfl)
theorem Eb:Tri Tryz.prog kY s_r06_Nodes.pt:=
 ac (S:=bB [(az,s_r04_ValidName),(eu,s_r06_within)]) (ah (ab ei (ab uy ae))) CO (fun _=> Nat.le_of_ble_eq_true rfl) (DT rfl rfl)
theorem D8:Tri Tryz.prog kW s_r06_heads.pt:=
 ac (S:=bB [(az,s_r04_ValidName),(mB,s_r06_bare),(gY,s_r06_TextAt),(jK,s_r06_cyclic)]) (ah (ab ei (ab Gj (ab Cp (ab Co ae))))) CL (fun _=> Nat.le_of_ble_eq_true rfl) (DQ rfl rfl rfl rfl)
theorem yv:Tri Tryz.prog gH s_r06_Validate.pt:=
 ac (S:=bB [(fa,s_r06_Attributes),(jJ,s_r06_tokens),(kV,s_r06_texts),(iC,s_r06_regions),(kY,s_r06_Nodes),(kW,s_r06_heads)]) (ah (ab vV (ab Cn (ab D7 (ab AM (ab Eb (ab D8 ae))))))) xr (fun _=> Nat.le_of_ble_eq_true rfl) (yh rfl rfl rfl rfl rfl rfl)
theorem Ea:Tri Tryz.prog ji s_r06_Valid.pt:=
 ac (S:=bB [(gH,s_r06_Validate)]) (ah (ab yv ae)) CN (fun _=> Nat.le_of_ble_eq_true rfl) (DS rfl)
theorem uz:Tri Tryz.prog ew s_r06_SortRegions.pt:=
 ac (S:=bB [(bE,s_r06_CompareRegions)]) (ah (ab kL ae)) sZ (fun _=> Nat.le_of_ble_eq_true rfl) (uf rfl)
theorem yu:Tri Tryz.prog e9 s_r06_allHeads.pt:=
 ac (S:=bB []) (ah ae) xq (fun _=> Nat.le_of_ble_eq_true rfl) (yg)
theorem Cq:Tri Tryz.prog jL s_r06_Concat.pt:=
 ac (S:=bB [(ji,s_r06_Valid),(dt,s_r06_sameAttributes),(gI,s_r06_FindText),(e9,s_r06_allHeads)]) (ah (ab Ea (ab qK (ab yw (ab yu ae))))) AU (fun _=> Nat.le_of_ble_eq_true rfl) (Cg rfl rfl rfl rfl)
theorem Ka:Tri Tryz.prog rD s_m_word.pt:=
 ac (S:=bB []) (ah ae) IY (fun _=> Nat.le_of_ble_eq_true rfl) (JQ)
theorem MN:Tri Tryz.prog vq s_m_tag.pt:=
 ac (S:=bB []) (ah ae) KK (fun _=> Nat.le_of_ble_eq_true rfl) (My)
theorem Cr:Tri Tryz.prog jM s_m_features.pt:=
 ac (S:=bB []) (ah ae) AV (fun _=> Nat.le_of_ble_eq_true rfl) (Ch)
theorem Kb:Tri Tryz.prog jN s_m_Type.pt:=
 ac (S:=bB [(iN,s_m_Mod)]) (ah (ab Cs ae)) BA (fun _=> Nat.le_of_ble_eq_true rfl) (JR rfl)
theorem yz:Tri Tryz.prog gL s_m_Attributes.pt:=
 ac (S:=bB []) (ah ae) xx (fun _=> Nat.le_of_ble_eq_true rfl) (yj)
theorem yx:Tri Tryz.prog gJ s_m_nodes.pt:=
 wT (S:=bB [(ag,s_m_Next)]) (ah (ab eH ae)) xu (by decide) (Iw rfl)
theorem yy:Tri Tryz.prog gK s_m_heads.pt:=
 wT (S:=bB [(ag,s_m_Next)]) (ah (ab eH ae)) xw (by decide) (Iy rfl)
theorem uA:Tri Tryz.prog dz s_m_Document.pt:=
 ac (S:=bB [(ag,s_m_Next),(gL,s_m_Attributes),(rD,s_m_word),(vq,s_m_tag),(jM,s_m_features),(jN,s_m_Type),(ew,s_r06_SortRegions),(gJ,s_m_nodes),(gK,s_m_heads)]) (ah (ab eH (ab yz (ab Ka (ab MN (ab Cr (ab Kb (ab uz (ab yx (ab yy ae)))))))))) tb (fun _=> Nat.le_of_ble_eq_true rfl) (Ci rfl rfl rfl rfl rfl rfl rfl rfl rfl)
theorem xi:Tri Tryz.prog fU s_m_Corpus.pt:=
 ac (S:=bB [(ag,s_m_Next),(dz,s_m_Document),(jL,s_r06_Concat)]) (ah (ab eH (ab uA (ab Cq ae)))) wm (fun _=> Nat.le_of_ble_eq_true rfl) (F3 rfl rfl rfl)
end Go.Gv
