/- A part of the framework and of the walks: W15 T20 W16 T21 W18 W9 W19 Asm. -/
import Derived.Test.YtphdikcommfnhaaGreatDoorGd24
import Derived.Test.YtphdikcommfnhaaGreatDoorGd21
import Derived.Test.YtphdikcommfnhaaGreatDoorGd22
set_option linter.unusedSimpArgs false
set_option linter.unusedVariables false
set_option linter.unusedSectionVars false
set_option maxRecDepth 100000

namespace Go.Gv
open Cod (enc dec)
variable {S S0:Nat->Spc}
theorem qcd:qbt JQ In S:=by
 intro l
 simp[JQ,In, -List.map_take,yN,CG]
 omega
def qmi(c:Corpus):List D:=[enc c.attrs,enc c.toks,enc c.texts,enc c.regs, .v (.slice none 0 0), .v (.slice none 0 0), .v (.slice none 0 0)]
def qc0(c:Corpus):List D:=[enc c.attrs,enc c.toks,enc c.texts,enc c.regs,enc c.nodes, .v (.slice none 0 0), .v (.slice none 0 0)]
def qj6(c:Corpus):List D:=[enc c.attrs,enc c.toks,enc c.texts,enc c.regs,enc c.nodes,enc c.heads,enc c.rels]
end Go.Gv

namespace Go.Gv
section
variable {S:Nat->Spc}{σ:Sg}{H:ab}{K:Ex->Sg->ab->Prop}
theorem rR{X:Type}(ks hk gv0 gv:List Nat)(rn0 rn:List (Nat×Nat))(P:X->Prop)(sl:X->List (Nat×D))(hp:X->List (Nat×Res))(m:X->Nat)(x0:X)(ids:List Nat)(hids:∀x,(hp x).map (·.1)=ids)
 (hi0:qiC rn0 (ids++hk) gv0/\∀i∈hk,i∉ids->SI rn0 i=i) (hi:qiC rn (ids++hk) gv/\∀i∈hk,i∉ids->SI rn i=i) {k:Nat} {b:CC} (h0:P x0)
 (hs:Ag (GE gv0 H) (sl x0) σ) (hh:xO (GE gv0 H) rn0 (hp x0) H)
 (hr:∀x,P x->vc S b (X7 P (fun y=>qbS σ H ks hk gv rn (sl y) (hp y)) m x K) (tC (sl x) (jz ks σ)) (gk (hp x) (kD hk H))):vc S (.loop k b) K σ H:=by
 rw[N0]
 refine⟨⟨X,P,fun x=>tC (sl x) (jz ks σ),fun x=>gk (hp x) (kD hk H),m⟩,⟨x0,h0,D4 (by rw[hids x0];exact hi0.1) (by rw[hids x0];exact hi0.2) hs (fun _ _=>rfl) hh (fun _ _=>rfl)⟩,fun x hx=>wk b _ _ (fun e σ' H' h=>?_) (hr x hx)⟩
 cases e with
 | norm=>
   obtain⟨y,h1,h2,h3⟩:=h
   exact⟨y,h1,D4 (by rw[hids y];exact hi.1) (by rw[hids y];exact hi.2) h2.1 h2.2.1 h2.2.2.1 h2.2.2.2,h3⟩
 | ex i=>exact h
 | ret=>exact h
end
end Go.Gv

namespace Go.Gv
open Cod (enc dec)
variable {S S0:Nat->Spc}
def Pb(l:List B):List D:=l.map enc
theorem Pa(a b:B):D.list 1 [.v (.string a), .v (.string b)]= .list 1 (Pb [a,b]):=id rfl
theorem Yx(a b c:B):D.list 1 [.v (.string a), .v (.string b), .v (.string c)]= .list 1 (Pb [a,b,c]):=id rfl
theorem qh(l:List B):(Pb l).length=l.length:=by simp[Pb]
theorem tR(l:List B)(i:Nat)(d:D):((Pb l)[i]? =some d)=∃s,l[i]? =some s/\ .v (.string s)=d:=by
 simp[Pb]
def qbL(n:Nat)(ns:List wg):Prop:=(∀x∈ns,0<=x.b/\x.b<=n/\0<=x.e/\x.e<=n)/\∀ (j:Nat) (y:wg),ns[j]? =some y->y.par < j
def Om(c c':Corpus):Prop:=∃ns,c'={ c with nodes:=ns } /\ns.length<=6/\qbL c.toks.length ns
def Av(c:Corpus):Prop:=c.toks.length<=4096
theorem VG(h1:S bc=s_m_Next):Ol ra qL S qmi qc0 Av Om:=by
 intro L b c hc
 have hc:c.toks.length<=4096:=hc
 simp[ra,qL,h1,qmi]
 intro _ k hk0 hk1
 refine rR (X:=Int×Int×Value×List wg) [0,1,4] [] [] [] [] [] (fun x=>0<=x.1/\x.1<=c.toks.length/\0<=x.2.1/\2*x.2.1+x.2.2.2.length<=6/\qbL c.toks.length x.2.2.2) (fun x=>[(5,enc x.1),(6,enc x.2.1)]) (fun x=>[(1, .box b [enc c.attrs,enc c.toks,enc c.texts,enc c.regs, .own 61 x.2.2.1, .v (.slice none 0 0), .v (.slice none 0 0)]),(61, .row x.2.2.1 tQ 4 (x.2.2.2.map enc))]) (fun x=>x.2.1.toNat) (0,k, .slice none 0 0, []) [1,61] (fun _=>rfl) (by decide) (by decide) ?_ ?_ ?_ ?_
 ·simp[qbL];omega
 ·simp
 ·simp[isNilRow]
  exact .nilown 61
 ·rintro⟨at_,k,v,l⟩ ⟨q1,q2,q3,q4,q5⟩
  simp only at q1 q2 q3 q4 q5
  simp[h1,Pa,qh,tR]
  have fin:qe9 qc0 b (Om c) (D.tup []) (ah (ah (ah (fun x=>none) 96 none) 61 (some (Res.row v tQ 4 (List.map enc l)))) 1 (some (Res.box b [D.list 2 (List.map enc c.attrs),D.list 1 (List.map enc c.toks),D.list 4 (List.map enc c.texts),D.list 4 (List.map enc c.regs),D.own 61 v,D.v (Value.slice none 0 0),D.v (Value.slice none 0 0)]))):=by
   refine⟨{ c with nodes:=l },_,rfl,rfl,?_,⟨l,rfl,by omega,q5⟩⟩
   simp[qc0]
   exact jj tQ rfl
  refine⟨fun hk=>⟨fun hat y hy0 hy1=>⟨by simp only[InR];omega,fun _=>fin,fun hb=>⟨by simp only[InR];omega,by simp only[InR];omega,by omega,fun y1 hy1'=>⟨by simp only[InR];omega,fun _ z hz0 hz1=>⟨hz0,hz1,fun lb hlb=>⟨by omega,by omega,fun v1=>?_⟩⟩⟩⟩⟩,fun _=>fin⟩,fun _=>fin⟩
  have hb0:0<=at_+y:=by omega
  generalize at_+y=b' at*
  have he:b'+1+y1<=c.toks.length/\0<=y1:=by omega
  generalize hee:b'+1+y1=e' at*
  have ok1:qbL c.toks.length (l++ [⟨lb,b',e', -1⟩]):=by
   refine⟨fun x hx=>?_,fun j x hx=>?_⟩
   ·rcases qtZ.1 hx with hx|hx
    ·exact q5.1 x hx
    ·simp at hx;subst hx;simp only;omega
   ·by_cases e:j < l.length
    ·rw[quf e]at hx;exact q5.2 j x hx
    ·rw[qt5 (by omega)]at hx
     have hx:=qtY hx
     simp at hx;subst hx;simp only;omega
  refine bD (X:=Value×List wg) [0,1,4,6,8] [] (fun x=>x.2.length<=l.length+2/\qbL c.toks.length x.2) (fun _=>[]) (fun x=>[(1, .box b [enc c.attrs,enc c.toks,enc c.texts,enc c.regs, .own 61 x.1, .v (.slice none 0 0), .v (.slice none 0 0)]),(61, .row x.1 tQ 4 (x.2.map enc))]) ?_ ?_
  ·simp[h1,Pa,qh,tR]
   refine fun u hu0 hu1=>⟨fun _=>⟨by simp only[InR];omega,by omega,fun y2 hy2=>⟨by simp only[InR];omega,fun z2 hz20 hz21=>⟨hz20,hz21,fun lb2 _=>⟨by simp only[InR];omega,by simp only[InR];omega,by omega,fun y3 hy3=>⟨by simp only[InR];omega,by omega,by omega,fun v2=>⟨v2,l++ [⟨lb,b',e', -1⟩] ++ [⟨lb2,b'+y2,b'+y2+1+y3,l.length⟩],⟨by simp,?_⟩, .inl rfl, .inl ⟨rfl,by simp⟩⟩⟩⟩⟩⟩⟩,fun _=>⟨v1,l++ [⟨lb,b',e', -1⟩],⟨by simp,ok1⟩, .inl rfl, .inl ⟨rfl,by simp⟩⟩⟩
   refine⟨fun x hx=>?_,fun j x hx=>?_⟩
   ·rcases qtZ.1 hx with hx|hx
    ·exact ok1.1 x hx
    ·simp at hx;subst hx;simp only;omega
   ·by_cases e:j < (l++ [(⟨lb,b',e', -1⟩:wg)]).length
    ·rw[quf e]at hx;exact ok1.2 j x hx
    ·rw[qt5 (by omega)]at hx
     have hx:=qtY hx
     simp at hx;subst hx;simp at e;simp only;omega
  ·rintro⟨v2,l2⟩ ⟨r1,r2⟩
   simp only at r1 r2
   simp
   exact⟨by simp only[InR];omega,e',k -1,v2,l2,⟨by omega,by omega,by omega,by omega,r2⟩,⟨⟨rfl,rfl⟩, .inl (.inl rfl), .inl (.inl rfl)⟩,by omega⟩
end Go.Gv

namespace Go.Gv
theorem X1{σ:Sg}{H:ab}(t id:Nat)(x:Value)(el n:Nat)(es:List D)(h1:σ t= .own id x)(h2:H id=some (.row x el n es)):Wk σ H (upd σ t (.sub id x n 0 es.length)) H:=by
 intro E a w ⟨hd,hN,tp,hw,hr⟩
 refine⟨hd,hN,tp,hw,fun s=>?_⟩
 unfold upd
 split
 ·rename_i e
  subst e
  have h3:=hr s
  rw[h1]at h3
  have e1:a.tmps.getD s undef=x:=by
   generalize a.tmps.getD s undef=y at h3
   cases h3;rfl
  obtain⟨xs,⟨_,h4⟩,_⟩:=hw.sat.ok id _ h2
  rw[e1]
  rcases h4 with⟨rfl,h5⟩|⟨g,cap,cur,rfl,_,_,h6,h7,_⟩
  ·rw[h5]
   exact .subnil id n
  ·exact .sub id g es.length cap n 0 es.length _ (qul _) (qt4 _) h6 h7 (fun _=>by simp)
 ·exact hr s
open Cod (enc dec) in
theorem qka{X:Type}[Cod X]{H:ab}{id n hi:Nat}{v:Value}{l:List X}(el:Nat)(h:H id=some (.row v el n (l.map enc)))(hh:hi=l.length)(hn:n=Cod.wd X:=by rfl):FrzTo H (.sub id v n 0 hi) (.list n (l.map enc)):=by
 subst hh
 have e:((l.map (enc (X:=X))).take l.length).drop 0=l.map enc:=by
  rw[List.drop_zero,qvz (by simp)]
 refine .sub h (by rw[e]) (fun d hd=>?_) (fun k c c' h1 h2=>?_)
 ·obtain⟨x,_,rfl⟩:=qt9.1 hd
  exact⟨Cod.kn x,(Cod.wid x).trans hn.symm⟩
 ·rw[e,h2]at h1
  cases h1
  exact .same _
end Go.Gv

namespace Go.Gv
open Cod (enc dec)
variable {S S0:Nat->Spc}
def qep(n:Nat)(hs:List Int)(rs:List B):Prop:=hs.length=n/\rs.length=n/\∀h∈hs,h<=n
def Vo(c c':Corpus):Prop:=∃hs rs,c'={ c with heads:=hs,rels:=rs } /\hs.length<=c.toks.length/\rs.length<=c.toks.length/\∀h∈hs,h<=c.toks.length
theorem VH(h1:S bc=s_m_Next):Ol rc qN S qc0 qj6 Av Vo:=by
 intro L b c hc
 have hc:c.toks.length<=4096:=hc
 simp[rc,qN,h1,qc0]
 intro _
 refine rR (X:=Int×List Int) [0,1,4] [1] [] [27] [] [] (fun x=>0<=x.1/\x.1<=c.toks.length/\(x.2.length:Int)=x.1/\∀y∈x.2,0<=y/\y < c.toks.length) (fun x=>[(5,enc x.2),(6,enc x.1)]) (fun x=>[]) (fun x=>c.toks.length -x.1.toNat) (0, []) [] (fun _=>rfl) (by decide) (by decide) ?_ ?_ ?_ ?_
 ·simp
 ·simp
 ·simp
 ·rintro⟨i,l⟩ ⟨q1,q2,q3,q4⟩
  simp only at q1 q2 q3 q4
  simp[h1]
  refine⟨fun hi=>⟨by simp only[InR];omega,by omega,fun y hy=>?_⟩,fun hi=>?_⟩
  ·have e:List.take y.toNat (List.map enc l) ++D.v (.int .i64 i)::List.drop y.toNat (List.map enc l)=(l.take y.toNat++i::l.drop y.toNat).map enc:=by simp
   refine⟨by omega,by omega,by omega,by omega,by omega,by omega,by omega,by omega,by omega,by omega,fun v=>⟨by simp only[InR];omega,i+1,l.take y.toNat++i::l.drop y.toNat,⟨by omega,by omega,?_,fun z hz=>?_⟩,⟨?_,rfl⟩,by omega⟩⟩
   ·simp;omega
   ·rcases qtZ.1 hz with hz|hz
    ·exact q4 z (qui hz)
    ·rcases qt1.1 hz with hz|hz
     ·omega
     ·exact q4 z (quP hz)
   ·rw[e]
    exact jj ix (by simp[GE])
  ·have hil:l.length=c.toks.length:=by omega
   refine⟨by omega,by omega,fun v8=>⟨by omega,by omega,fun v9=>?_⟩⟩
   refine bD (X:=Bool×List Int×List B) [1] [1] (fun x=>qep c.toks.length x.2.1 x.2.2) (fun x=>[(8, .sub 40 v8 1 0 c.toks.length),(9, .sub 42 v9 1 0 c.toks.length),(10,enc x.1)]) (fun x=>[(40, .row v8 ix 1 (x.2.1.map enc)),(42, .row v9 az 1 (x.2.2.map enc))]) ?_ ?_
   ·simp[-Bool.exists_bool]
    intro _
    refine Ee ((X1 8 40 v8 ix 1 _ rfl rfl).trans (X1 9 42 v9 az 1 _ rfl rfl)) ?_
    simp only[qiT]
    refine aj (X:=Bool×List Int×List B) [0,1,5,8,9,43] [1] l.length (fun _ x=>qep c.toks.length x.2.1 x.2.2) (fun x=>[(10,enc x.1)]) (fun x=>[(40, .row v8 ix 1 (x.2.1.map enc)),(42, .row v9 az 1 (x.2.2.map enc))]) (false,List.replicate c.toks.length 0,List.replicate c.toks.length ⟨#[]⟩) (by simp) (by simp) (by omega) (by simp) (by simp) (by simp[qep]) (by simp) (by simp) ?_ ?_
    ·rintro k ⟨sm,hs,rs⟩ hk ⟨p1,p2,p3⟩
     simp only at p1 p2 p3
     obtain⟨x,hx⟩:=da hk
     obtain⟨_,hgx⟩:=qtV.1 hx
     have hxr:=q4 x (dM hx)
     simp[hk,hx,hgx, -Bool.exists_bool]
     refine⟨by omega,by omega,by omega,fun a ha=>?_⟩
     have e1:(List.map enc hs).set x.toNat (D.v (Value.int .i64 (-1)))=(hs.set x.toNat (-1)).map enc:=iP hs _ _
     rw[e1]
     have p1':(hs.set x.toNat (-1)).length=c.toks.length:=by simp[p1]
     have p3':∀h∈hs.set x.toNat (-1),h<=c.toks.length:=fun h hh=>by
      rcases quV hh with hh|hh
      ·exact p3 h hh
      ·omega
     generalize hs.set x.toNat (-1)=hs1 at p1' p3' ⊢
     clear p1 p3 ha e1
     refine bD (X:=List Int×List B) [0,1,5,8,9,10,12,43,44,45] [1] (fun x=>qep c.toks.length x.1 x.2) (fun _=>[]) (fun x=>[(40, .row v8 ix 1 (x.1.map enc)),(42, .row v9 az 1 (x.2.map enc))]) ?_ ?_
     ·simp[h1,Yx,qh,tR, -Bool.exists_bool]
      have hlx:∀ (y:Int),hs1.length=c.toks.length->∃z,hs1[x.toNat]? =some z:=fun _ _=>da (by omega)
      refine⟨fun hk0 y _ _=>⟨fun _=>⟨by omega,fun y2 hy2=>⟨by omega,by omega,fun a ha y3 hy30 hy31=>⟨hy30,hy31,fun s _=>⟨by omega,by omega,by omega,fun z _=>⟨by omega,by omega,by omega,fun z2 _=>⟨hs1.set x.toNat a,rs.set x.toNat s,⟨by simp[p1'],by simp[p2],fun h hh=>?_⟩, .inl (iP hs1 _ _), .inl (iP rs _ _)⟩⟩⟩⟩⟩⟩,fun _=>⟨hs1,rs,⟨p1',p2,p3'⟩, .inl rfl, .inl rfl⟩⟩,fun _=>⟨hs1,rs,⟨p1',p2,p3'⟩, .inl rfl, .inl rfl⟩⟩
      rcases quV hh with hh|hh
      ·exact p3' h hh
      ·have:=q4 a (dM ha)
       omega
     ·rintro⟨hs2,rs2⟩ ⟨r1,r2,r3⟩
      simp only at r1 r2 r3
      simp[-Bool.exists_bool]
      refine⟨fun _=>⟨by omega,by omega,by omega,fun a _=>⟨fun _=>⟨by omega,by omega,by omega,fun a2 _=>⟨!decide (a2=⟨#[]⟩),hs2,rs2,⟨r1,r2,r3⟩,by simp, .inl rfl, .inl rfl⟩⟩,fun _=>⟨true,hs2,rs2,⟨r1,r2,r3⟩,by simp, .inl rfl, .inl rfl⟩⟩⟩,fun _=>⟨true,hs2,rs2,⟨r1,r2,r3⟩,by simp, .inl rfl, .inl rfl⟩⟩
    ·rintro⟨sm,hs,rs⟩ ⟨p1,p2,p3⟩
     simp only at p1 p2 p3
     simp[-Bool.exists_bool]
     exact⟨sm,hs,rs,⟨p1,p2,p3⟩,rfl, .inl rfl, .inl rfl⟩
   ·rintro⟨sm,hs,rs⟩ ⟨p1,p2,p3⟩
    simp only at p1 p2 p3
    simp
    refine⟨fun _=>⟨{ c with heads:=hs,rels:=rs },_,rfl,rfl,?_,⟨hs,rs,rfl,by omega,by omega,p3⟩⟩,fun _=>⟨{ c with heads:=[],rels:=[] },_,rfl,rfl,?_,⟨[], [],rfl,by simp,by simp,by simp⟩⟩⟩
    ·simp[qj6]
     exact⟨qka ix rfl p1.symm,qka az rfl p2.symm⟩
    ·simp[qj6]
end Go.Gv

namespace Go.Gv
open Cod (enc dec)
variable {S S0:Nat->Spc}
abbrev s_m_word:Spc:=bj (a1 Int) (fun n=>0<=n/\n < 6) (enc (X:=B)) fun _ y=>y∈Rb
theorem Ya:ar Fi EC S (a1 Int) (fun n=>0<=n/\n < 6) (enc (X:=B)) fun _ y=>y∈Rb:=by
 rintro n hn
 have hn:0<=n/\n < 6:=hn
 simp[Fi,EC]
 refine⟨hn.1,hn.2,?_⟩
 have:n=0\/n=1\/n=2\/n=3\/n=4\/n=5:=by omega
 rcases this with rfl|rfl|rfl|rfl|rfl|rfl <;> simp[Rb]
abbrev s_m_tag:Spc:=bj (a1 Int) (fun n=>0<=n/\n < 2) (enc (X:=B)) fun _ y=>y∈qbu
theorem qcc:ar JP Im S (a1 Int) (fun n=>0<=n/\n < 2) (enc (X:=B)) fun _ y=>y∈qbu:=by
 rintro n hn
 have hn:0<=n/\n < 2:=hn
 simp[JP,Im]
 refine⟨hn.1,hn.2,?_⟩
 have:n=0\/n=1:=by omega
 rcases this with rfl|rfl <;> simp[qbu]
abbrev s_m_features:Spc:=bj (a1 Int) (fun n=>0<=n/\n < 4) (enc (X:=B)) fun _ y=>y∈L7
theorem Mp:ar vp uM S (a1 Int) (fun n=>0<=n/\n < 4) (enc (X:=B)) fun _ y=>y∈L7:=by
 rintro n hn
 have hn:0<=n/\n < 4:=hn
 simp[vp,uM]
 refine⟨hn.1,hn.2,?_⟩
 have:n=0\/n=1\/n=2\/n=3:=by omega
 rcases this with rfl|rfl|rfl|rfl <;> simp[L7]
abbrev s_m_Type:Spc:=bj (a1 Int) cb (enc (X:=B)) qf
theorem Yb(h1:S pU=s_m_Mod):ar vX vJ S (a1 Int) cb (enc (X:=B)) qf:=by
 rintro n -
 simp[vX,vJ,h1]
 have h3:=IY n 3 (by omega)
 refine⟨h3.1,h3.2,?_⟩
 have:EW n 3=0\/EW n 3=1\/EW n 3=2:=by omega
 rcases this with h|h|h <;> simp[h]
abbrev s_m_Attributes:Spc:=bj a0 cb (enc (X:=List Attr)) (fun _ l=>qe8 l)
theorem Hs:ar re qO S a0 cb (enc (X:=List Attr)) (fun _ l=>qe8 l):=by
 rintro x -
 simp[re,qO]
 exact cX (Y:=List Attr) [⟨⟨#[119,111,114,100]⟩,false⟩,⟨⟨#[116,97,103]⟩,false⟩,⟨⟨#[102,101,97,116]⟩,true⟩] (by simp) rfl
end Go.Gv

namespace Go.Gv
open Cod (enc dec)
variable {S S0:Nat->Spc}
abbrev s_m_nodes:Spc:=qn3 qmi qc0 Av Om
abbrev s_m_heads:Spc:=qn3 qc0 qj6 Av Vo
theorem qac{H:ab}{id el n:Nat}{v:Value}{d d':D}(h:H id=some (.row v el n [d]))(hd:FrzTo H d d')(hk:d'.kn=true/\d'.cells.length=n):FrzTo H (.own id v) (.list n [d']):=by
 refine .row h rfl (fun e he=>?_) (fun k c c' h1 h2=>?_)
 ·simp at he;subst he;exact hk
 ·cases k with
  | zero=>simp at h1 h2;subst h1;subst h2;exact hd
  | succ k=>simp at h1
def ZY(l:List Int):List D:=l.map enc
theorem qjX(a b c d e f g h:Int):D.list 1 [.v (.int .i64 a), .v (.int .i64 b), .v (.int .i64 c), .v (.int .i64 d), .v (.int .i64 e), .v (.int .i64 f), .v (.int .i64 g), .v (.int .i64 h)]= .list 1 (ZY [a,b,c,d,e,f,g,h]):=id rfl
theorem ZX(l:List Int):(ZY l).length=l.length:=by simp[ZY]
theorem qdp(l:List Int)(i:Nat)(d:D):((ZY l)[i]? =some d)=∃s,l[i]? =some s/\ .v (.int .i64 s)=d:=by
 simp[ZY]
theorem Yp{l:List (List B)}{r:List B}(h:∀x∈l,DW x)(hr:DW r):∀x∈l++ [r],DW x:=fun x hx=>by
 rcases qtZ.1 hx with hx|hx
 ·exact h x hx
 ·rw[qu5]at hx;rw[hx];exact hr
theorem Mr(h1:S bc=s_m_Next)(h2:S nD=s_m_Attributes)(h3:S DI=s_m_word)(h4:S G6=s_m_tag)(h5:S rM=s_m_features)
 (h6:S nA=s_m_Type) (h7:S iY=s_r06_SortRegions) (h8:S nB=s_m_nodes) (h9:S nC=s_m_heads):
 ar ma lL S (aT (a2 B Int)) (fun x=>1<=x.2.2/\x.2.2<=1000) (enc (X:=Corpus)) (fun x c=>Rc c/\Lf c/\(c.toks.length:Int)<=x.2.2):=by
 rintro⟨L,name,most⟩ hm
 have hm:1<=most/\most<=1000:=hm
 simp[ma,lL,h1,h2]
 refine fun b6=>⟨by omega,fun y hy=>⟨by simp only[InR];omega,trivial,fun at_ hat v26 b8=>?_⟩⟩
 have hal:at_.length=3:=by rw[show at_=jk from hat];rfl
 obtain⟨n,hn0,hn⟩:∃n:Nat,1+y=(n:Int)/\1<=n/\n<=1000:=⟨(1+y).toNat,by omega,by omega⟩
 rw[hn0]
 refine jN (X:=mh) [0,6,7,8] [6] [26] [] (fun t=>t.b=0/\t.e=n) (fun _=>[]) (fun t=>[(8, .box b8 [enc at_, .v (.slice none 0 0),enc [t], .v (.slice none 0 0), .v (.slice none 0 0), .v (.slice none 0 0), .v (.slice none 0 0)])]) [8] (fun _=>rfl) (by decide) ?_ ?_
 ·simp[h1,Yx,qh,tR]
  refine fun z _ _=>⟨fun _ u hu0 hu1=>⟨hu0,hu1,fun s _=>⟨⟨name,0,n, [⟨⟨#[121,101,97,114]⟩,s⟩]⟩,⟨rfl,rfl⟩, .inl (qac (el:=Ak) (by simp[GE]) (.same _) ⟨rfl,rfl⟩)⟩⟩,fun _=>⟨⟨name,0,n, []⟩,⟨rfl,rfl⟩, .inl (qac (el:=Ak) (by simp[GE];rfl) ?_ ⟨rfl,rfl⟩)⟩⟩
  rw[bT,bT,bT,bT]
  exact⟨.same _, .same _, .same _, .nil _, .same _⟩
 ·rintro t ⟨ht1,ht2⟩
  refine jN (X:=List (List B)) [0,6,7,8] [6] [66] [] (fun l=>l.length=n/\∀r∈l,DW r) (fun _=>[]) (fun l=>[(8, .box b8 [enc at_,enc l,enc [t], .v (.slice none 0 0), .v (.slice none 0 0), .v (.slice none 0 0), .v (.slice none 0 0)])]) [8] (fun _=>rfl) (by decide) ?_ ?_
  ·simp[h1]
   refine rR (X:=Int×Value×List (List B)) [0,6,7,8] [6] [] [] [] [] (fun x=>0<=x.1/\x.1<=n/\(x.2.2.length:Int)=x.1/\∀r∈x.2.2,DW r) (fun x=>[(9,enc x.1)]) (fun x=>[(8, .box b8 [enc at_, .own 66 x.2.1,enc [t], .v (.slice none 0 0), .v (.slice none 0 0), .v (.slice none 0 0), .v (.slice none 0 0)]),(66, .row x.2.1 mq 1 (x.2.2.map enc))]) (fun x=>n -x.1.toNat) (0, .slice none 0 0, []) [8,66] (fun _=>rfl) (by decide) (by decide) ?_ ?_ ?_ ?_
   ·simp
   ·simp
   ·simp[isNilRow]
    exact .nilown 66
   ·rintro⟨i,v,l⟩ ⟨q1,q2,q3,q4⟩
    simp only at q1 q2 q3 q4
    simp[h1,h3,h4,h5,qjX,ZX,qdp]
    refine⟨fun hi y hy0 hy1=>?_,fun hi=>⟨l,⟨by omega,q4⟩, .inl (jj mq (by simp[GE]))⟩⟩
    have a1:y.tmod 8=y % 8:=Int.tmod_eq_emod_of_nonneg hy0
    have a2:y.tdiv 8=y/8:=Int.tdiv_eq_ediv_of_nonneg hy0
    have a3:(y/8).tmod 2=(y/8) % 2:=Int.tmod_eq_emod_of_nonneg (by omega)
    have a4:y.tdiv 12=y/12:=Int.tdiv_eq_ediv_of_nonneg hy0
    rw[a1,a2,a3,a4]
    refine⟨by omega,by omega,fun s hs=>⟨?_,fun w1 hw1=>⟨by simp only[InR];omega,by omega,fun w2 hw2=>⟨by simp only[InR];omega,by omega,fun w3 hw3=>⟨by omega,by omega,fun v2=>⟨by simp only[InR];omega,i+1,v2,l++ [[w1,w2,w3]],⟨by omega,by omega,by simp;omega,Yp q4 ⟨w1,w2,w3,hw1,hw2,hw3,rfl⟩⟩,⟨rfl, .inl (.inl rfl), .inl (.inl (by simp))⟩,by omega⟩⟩⟩⟩⟩⟩
    have:=qtY hs
    simp at this
    omega
  ·rintro toks ⟨htk,hto⟩
   refine jN (X:=List Region) [0,6,7,8] [6,8] [165] [] (fun l=>l.length<=8/\∀r∈l,0<=r.b/\r.b<=n/\0<=r.e/\r.e<=n) (fun l=>[(11,enc l)]) (fun _=>[]) [] (fun _=>rfl) (by decide) ?_ ?_
   ·simp[h1]
    intro k hk0 hk1
    refine rR (X:=Int×Value×List Region) [0,6,7,8] [6,8] [] [] [] [] (fun x=>0<=x.1/\x.1+x.2.2.length<=4/\∀r∈x.2.2,0<=r.b/\r.b<=n/\0<=r.e/\r.e<=n) (fun x=>[(11, .own 165 x.2.1),(12,enc x.1)]) (fun x=>[(165, .row x.2.1 mj 4 (x.2.2.map enc))]) (fun x=>x.1.toNat) (k, .slice none 0 0, []) [165] (fun _=>rfl) (by decide) (by decide) ?_ ?_ ?_ ?_
    ·simp;omega
    ·simp
     exact .nilown 165
    ·simp[isNilRow]
    ·rintro⟨k,v,l⟩ ⟨q1,q2,q3⟩
     simp only at q1 q2 q3
     simp[h1,h6]
     refine⟨fun hk=>⟨by omega,fun u hu z _ _=>⟨trivial,fun ty=>⟨by simp only[InR];omega,by simp only[InR];omega,by omega,fun w hw=>⟨by simp only[InR];omega,fun b14=>?_⟩⟩⟩⟩,fun hk=>⟨l,⟨by omega,q3⟩,jj mj (by simp[GE])⟩⟩
     have hr:0<=u/\u<=n/\0<=u+1+w/\u+1+w<=n:=by omega
     generalize u+1+w=e' at*
     refine jN (X:=List Pair) [0,6,7,8,11,12,14] [6,8,165] [] [] (fun _=>True) (fun _=>[]) (fun kv=>[(14, .box b14 [.v (.string ty), .v (.int .i64 u), .v (.int .i64 e'),enc kv])]) [14] (fun _=>rfl) (by decide) ?_ ?_
     ·simp[h1,Pa,qh,tR]
      exact fun _ _ _ _ q hq0 hq1=>⟨hq0,hq1,fun s _=>⟨[⟨⟨#[110]⟩,s⟩], .inl (.inl rfl)⟩⟩
     ·rintro kv -
      simp only[qgA,qdh]
      simp
      refine bD (X:=Bool) [0,6,7,8,11,12,14] [6,8,14,165] (fun _=>True) (fun x=>[(15,enc x)]) (fun _=>[]) ?_ ?_
      ·simp[-Bool.exists_bool]
       intro _
       refine aj (X:=Bool) [0,6,7,8,11,12,14,101] [6,8,14,165] l.length (fun _ _=>True) (fun x=>[(15,enc x)]) (fun _=>[]) false (by simp) (by simp) (by omega) (by simp) (by simp) trivial (by simp) (by simp) ?_ ?_
       ·rintro j cr hj -
        obtain⟨x,hx⟩:=da hj
        obtain⟨_,hgx⟩:=qtV.1 hx
        simp[hj,hx,hgx, -Bool.exists_bool]
        exact fun _ _ _ _=>⟨fun _ _ _=>⟨_,(Bool.not_not _).symm⟩,fun _ _=>⟨_,(Bool.not_not _).symm⟩⟩
       ·rintro cr -
        simp[-Bool.exists_bool]
      ·rintro cr -
       simp[-Bool.exists_bool]
       refine⟨fun _=>⟨by omega,by omega,fun v2=>⟨by simp only[InR];omega,k -1,v2,l++ [⟨ty,u,e',kv⟩],⟨by omega,by simp;omega,fun r hrr=>?_⟩,⟨⟨.same _,rfl⟩, .inl (.inl (by simp))⟩,by omega⟩⟩,fun _=>⟨by simp only[InR];omega,k -1,v,l,⟨by omega,by omega,q3⟩,⟨⟨.same _,rfl⟩, .inl (.inl rfl)⟩,by omega⟩⟩
       rcases qtZ.1 hrr with hrr|hrr
       ·exact q3 r hrr
       ·simp at hrr;subst hrr;exact hr
   ·rintro rg ⟨hr1,hr2⟩
    simp[h7,h8]
    refine⟨by simp only[TV];omega,fun rs ⟨hs1,hs2⟩=>⟨⟨at_,toks, [t],rs, [], [], []⟩,by simp[qmi],by simp only[Av];omega,fun c hc=>?_⟩⟩
    obtain⟨ns,rfl,hns,hnd⟩:=hc
    simp only at hnd
    simp[qc0]
    refine jN (X:=List Int×List B) [6,8] [6] [] [] (fun x=>x.1.length<=n/\x.2.length<=n/\∀h∈x.1,h<=n) (fun _=>[]) (fun x=>[(8, .box b8 [enc at_,enc toks,enc [t],enc rs,enc ns,enc x.1,enc x.2])]) [8] (fun _=>rfl) (by decide) ?_ ?_
    ·simp[h1,h9]
     refine fun z _ _=>⟨fun _=>⟨⟨at_,toks, [t],rs,ns, [], []⟩,by simp[qc0],by simp only[Av];omega,fun c hc=>?_⟩,fun _=>⟨[], [],⟨by simp,by simp,by simp⟩, .inl ⟨rfl,rfl⟩⟩⟩
     obtain⟨hs,rl,rfl,g1,g2,g3⟩:=hc
     simp only at g1 g2 g3
     simp[qj6]
     exact⟨hs,rl,⟨by omega,by omega,fun h hh=>by have:=g3 h hh;omega⟩, .inl (.inl ⟨rfl,rfl⟩)⟩
    ·rintro⟨hs,rl⟩ ⟨p1,p2,p3⟩
     simp only at p1 p2 p3
     simp
     refine cX ⟨at_,toks, [t],rs,ns,hs,rl⟩ (.same _) ⟨?_,⟨hat,hto⟩,by show(toks.length:Int)<=most;omega⟩
     refine⟨⟨ht1,by omega,by show t.e=(toks.length:Int);omega⟩,by simp,by simp only;omega,by simp,by simp only;omega,by simp only;omega,by simp only;omega,by simp only;omega,by simp only;omega,fun r hr=>?_,fun m hm=>?_,hnd.2,fun h hh=>?_⟩
     ·have:=hr2 r (hs2 r hr)
      simp only
      omega
     ·have:=hnd.1 m hm
      simp only
      omega
     ·have:=p3 h hh
      simp only
      omega
end Go.Gv

namespace Go.Gv
open Go.Proofs
theorem MK:Tri Tryz.prog pU s_m_Mod.pt:=
 ae (S:=aJ []) (ag ac) Zi (fun _=>qtU rfl) (qce)
theorem fE:Tri Tryz.prog bc s_m_Next.pt:=Yo (S:=aJ [(pU,s_m_Mod)]) (ag (aa MK ac)) rfl IQ (by decide)
theorem qcw:Tri Tryz.prog G7 s_m_New.pt:=qct (RP (S:=aJ []) (ag ac) Zh (by decide) qcd)
theorem FH:Tri Tryz.prog mB s_r04_First.pt:=
 ae (S:=aJ []) (ag ac) Nv (fun _=>qtU rfl) (ON)
theorem RY:Tri Tryz.prog xm s_r04_Next.pt:=
 ae (S:=aJ [(mB,s_r04_First)]) (ag (aa FH ac)) PB (fun _=>qtU rfl) (Ry rfl)
theorem eX:Tri Tryz.prog aW s_r04_ValidName.pt:=
 ae (S:=aJ [(mB,s_r04_First),(xm,s_r04_Next)]) (ag (aa FH (aa RY ac))) EH (fun _=>qtU rfl) (F5 rfl rfl)
theorem O8:Tri Tryz.prog un s_r01_Units.pt:=
 ae (S:=aJ []) (ag ac) Nx (fun _=>qtU rfl) (OP)
theorem O7:Tri Tryz.prog um s_r01_Valid.pt:=
 ae (S:=aJ [(un,s_r01_Units)]) (ag (aa O8 ac)) Nw (fun _=>qtU rfl) (OO rfl)
theorem ov:Tri Tryz.prog cU s_r04_ValidValue.pt:=
 ae (S:=aJ [(um,s_r01_Valid)]) (ag (aa O7 ac)) Df (fun _=>qtU rfl) (Ea rfl)
theorem O6:Tri Tryz.prog ul s_r05_Parse.pt:=
 ae (S:=aJ [(cU,s_r04_ValidValue)]) (ag (aa ov ac)) Nu (fun _=>qtU rfl) (OM rfl)
theorem RW:Tri Tryz.prog xj s_r06_sign.pt:=
 ae (S:=aJ []) (ag ac) Pz (fun _=>qtU rfl) (Rv)
theorem KF:Tri Tryz.prog pQ s_r06_compare.pt:=
 ae (S:=aJ []) (ag ac) IG (fun _=>qtU rfl) (Kj)
theorem qg:Tri Tryz.prog cT s_r06_CompareRegions.pt:=
 ae (S:=aJ [(xj,s_r06_sign),(pQ,s_r06_compare)]) (ag (aa RW (aa KF ac))) yq (fun _=>qtU rfl) (yD rfl rfl)
theorem Ek:Tri Tryz.prog jY s_r06_Attributes.pt:=
 ae (S:=aJ [(aW,s_r04_ValidName)]) (ag (aa eX ac)) De (fun _=>qtU rfl) (D9 rfl)
theorem O3:Tri Tryz.prog uh s_r06_Value.pt:=
 ae (S:=aJ [(ul,s_r05_Parse),(cU,s_r04_ValidValue)]) (ag (aa O6 (aa ov ac))) Nr (fun _=>qtU rfl) (OJ rfl rfl)
theorem FG:Tri Tryz.prog mA s_r06_pairs.pt:=
 ae (S:=aJ [(aW,s_r04_ValidName),(cU,s_r04_ValidValue)]) (ag (aa eX (aa ov ac))) Np (fun _=>qtU rfl) (OH rfl rfl)
theorem CH:Tri Tryz.prog jX s_r06_within.pt:=
 ae (S:=aJ []) (ag ac) KJ (fun _=>qtU rfl) (Mg)
theorem RX:Tri Tryz.prog xk s_r06_bare.pt:=
 ae (S:=aJ []) (ag ac) PA (fun _=>qtU rfl) (Rw)
theorem MH:Tri Tryz.prog rG s_r06_TextAt.pt:=
 ae (S:=aJ []) (ag ac) KN (fun _=>qtU rfl) (Mj)
theorem HK:Tri Tryz.prog nw s_r06_FindText.pt:=
 ae (S:=aJ []) (ag ac) Gr (fun _=>qtU rfl) (Hl)
theorem yO:Tri Tryz.prog fq s_r06_sameAttributes.pt:=
 ae (S:=aJ []) (ag ac) yp (fun _=>qtU rfl) (yC)
theorem MG:Tri Tryz.prog rF s_r06_cyclic.pt:=
 ae (S:=aJ []) (ag ac) KM (fun _=>qtU rfl) (Mi)
theorem MF:Tri Tryz.prog rE s_r06_tokens.pt:=
 ae (S:=aJ [(uh,s_r06_Value)]) (ag (aa O3 ac)) KL (fun _=>qtU rfl) (Mh rfl)
theorem O0:Tri Tryz.prog uf s_r06_texts.pt:=
 ae (S:=aJ [(aW,s_r04_ValidName),(mA,s_r06_pairs)]) (ag (aa eX (aa FG ac))) Nn (fun _=>qtU rfl) (OG rfl rfl)
theorem KE:Tri Tryz.prog pP s_r06_regions.pt:=
 ae (S:=aJ [(aW,s_r04_ValidName),(mA,s_r06_pairs),(jX,s_r06_within),(cT,s_r06_CompareRegions)]) (ag (aa eX (aa FG (aa CH (aa qg ac))))) IF (fun _=>qtU rfl) (Ki rfl rfl rfl rfl)
theorem O5:Tri Tryz.prog uj s_r06_Nodes.pt:=
 ae (S:=aJ [(aW,s_r04_ValidName),(jX,s_r06_within)]) (ag (aa eX (aa CH ac))) Nt (fun _=>qtU rfl) (OL rfl rfl)
theorem O1:Tri Tryz.prog ug s_r06_heads.pt:=
 ae (S:=aJ [(aW,s_r04_ValidName),(xk,s_r06_bare),(rG,s_r06_TextAt),(rF,s_r06_cyclic)]) (ag (aa eX (aa RX (aa MH (aa MG ac))))) Nq (fun _=>qtU rfl) (OI rfl rfl rfl rfl)
theorem HJ:Tri Tryz.prog nt s_r06_Validate.pt:=
 ae (S:=aJ [(jY,s_r06_Attributes),(rE,s_r06_tokens),(uf,s_r06_texts),(pP,s_r06_regions),(uj,s_r06_Nodes),(ug,s_r06_heads)]) (ag (aa Ek (aa MF (aa O0 (aa KE (aa O5 (aa O1 ac))))))) Gq (fun _=>qtU rfl) (Hk rfl rfl rfl rfl rfl rfl)
theorem O4:Tri Tryz.prog ui s_r06_Valid.pt:=
 ae (S:=aJ [(nt,s_r06_Validate)]) (ag (aa HJ ac)) Ns (fun _=>qtU rfl) (OK rfl)
theorem CJ:Tri Tryz.prog iY s_r06_SortRegions.pt:=
 ae (S:=aJ [(cT,s_r06_CompareRegions)]) (ag (aa qg ac)) Bw (fun _=>qtU rfl) (Cj rfl)
theorem HI:Tri Tryz.prog nr s_r06_allHeads.pt:=
 ae (S:=aJ []) (ag ac) Gp (fun _=>qtU rfl) (Hj)
theorem MI:Tri Tryz.prog rH s_r06_Concat.pt:=
 ae (S:=aJ [(ui,s_r06_Valid),(fq,s_r06_sameAttributes),(nw,s_r06_FindText),(nr,s_r06_allHeads)]) (ag (aa O4 (aa yO (aa HK (aa HI ac))))) KO (fun _=>qtU rfl) (Mk rfl rfl rfl rfl)
theorem Yv:Tri Tryz.prog DI s_m_word.pt:=
 ae (S:=aJ []) (ag ac) Ww (fun _=>qtU rfl) (Ya)
theorem qcv:Tri Tryz.prog G6 s_m_tag.pt:=
 ae (S:=aJ []) (ag ac) Zg (fun _=>qtU rfl) (qcc)
theorem MJ:Tri Tryz.prog rM s_m_features.pt:=
 ae (S:=aJ []) (ag ac) KV (fun _=>qtU rfl) (Mp)
theorem Yw:Tri Tryz.prog nA s_m_Type.pt:=
 ae (S:=aJ [(pU,s_m_Mod)]) (ag (aa MK ac)) Lx (fun _=>qtU rfl) (Yb rfl)
theorem HN:Tri Tryz.prog nD s_m_Attributes.pt:=
 ae (S:=aJ []) (ag ac) Gz (fun _=>qtU rfl) (Hs)
theorem HL:Tri Tryz.prog nB s_m_nodes.pt:=
 FE (S:=aJ [(bc,s_m_Next)]) (ag (aa fE ac)) Gw (by decide) (VG rfl)
theorem HM:Tri Tryz.prog nC s_m_heads.pt:=
 FE (S:=aJ [(bc,s_m_Next)]) (ag (aa fE ac)) Gy (by decide) (VH rfl)
theorem CK:Tri Tryz.prog jc s_m_Document.pt:=
 ae (S:=aJ [(bc,s_m_Next),(nD,s_m_Attributes),(DI,s_m_word),(G6,s_m_tag),(rM,s_m_features),(nA,s_m_Type),(iY,s_r06_SortRegions),(nB,s_m_nodes),(nC,s_m_heads)]) (ag (aa fE (aa HN (aa Yv (aa qcv (aa MJ (aa Yw (aa CJ (aa HL (aa HM ac)))))))))) BD (fun _=>qtU rfl) (Mr rfl rfl rfl rfl rfl rfl rfl rfl rfl)
theorem Gi:Tri Tryz.prog lr s_m_Corpus.pt:=
 ae (S:=aJ [(bc,s_m_Next),(jc,s_m_Document),(rH,s_r06_Concat)]) (ag (aa fE (aa CK (aa MI ac)))) EP (fun _=>qtU rfl) (RB rfl rfl rfl)
end Go.Gv
