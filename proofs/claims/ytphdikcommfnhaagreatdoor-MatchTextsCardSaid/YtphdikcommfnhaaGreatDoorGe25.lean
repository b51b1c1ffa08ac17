/- A part of the framework and of the walks: W15 T20 W16 T21 W18 W9 W19 Asm. -/
import Derived.Test.YtphdikcommfnhaaGreatDoorGe24
import Derived.Test.YtphdikcommfnhaaGreatDoorGe20
import Derived.Test.YtphdikcommfnhaaGreatDoorGe22
import Derived.Test.YtphdikcommfnhaaGreatDoorGe21
set_option linter.unusedSimpArgs false
set_option linter.unusedVariables false
set_option linter.unusedSectionVars false
set_option maxRecDepth 100000

namespace Go.Gv
open Cod (enc dec)
variable {S S0:Nat->Spc}
theorem qeV:qd6 K0 Jy S:=by
 intro l
 simp[K0,Jy, -List.map_take,zM,DU]
 omega
def qpQ(c:Corpus):List D:=[enc c.attrs,enc c.toks,enc c.texts,enc c.regs, .v (.slice none 0 0), .v (.slice none 0 0), .v (.slice none 0 0)]
def qfW(c:Corpus):List D:=[enc c.attrs,enc c.toks,enc c.texts,enc c.regs,enc c.nodes, .v (.slice none 0 0), .v (.slice none 0 0)]
def qnz(c:Corpus):List D:=[enc c.attrs,enc c.toks,enc c.texts,enc c.regs,enc c.nodes,enc c.heads,enc c.rels]
end Go.Gv

namespace Go.Gv
section
variable {S:Nat->Spc}{σ:Sg}{H:ab}{K:Ex->Sg->ab->Prop}
theorem mD{X:Type}(ks hk gv0 gv:List Nat)(rn0 rn:List (Nat×Nat))(P:X->Prop)(sl:X->List (Nat×D))(hp:X->List (Nat×Res))(m:X->Nat)(x0:X)(ids:List Nat)(hids:∀x,(hp x).map (·.1)=ids)
 (hi0:ql7 rn0 (ids++hk) gv0/\∀i∈hk,i∉ids->Uo rn0 i=i) (hi:ql7 rn (ids++hk) gv/\∀i∈hk,i∉ids->Uo rn i=i) {k:Nat} {b:CC} (h0:P x0)
 (hs:A9 (Hh gv0 H) (sl x0) σ) (hh:yI (Hh gv0 H) rn0 (hp x0) H)
 (hr:∀x,P x->vc S b (Z8 P (fun y=>qey σ H ks hk gv rn (sl y) (hp y)) m x K) (ur (sl x) (jA ks σ)) (gp (hp x) (kE hk H))):vc S (.loop k b) K σ H:=by
 rw[Pp]
 refine⟨⟨X,P,fun x=>ur (sl x) (jA ks σ),fun x=>gp (hp x) (kE hk H),m⟩,⟨x0,h0,Fh (by rw[hids x0];exact hi0.1) (by rw[hids x0];exact hi0.2) hs (fun _ _=>rfl) hh (fun _ _=>rfl)⟩,fun x hx=>xb b _ _ (fun e σ' H' h=>?_) (hr x hx)⟩
 cases e with
 | norm=>
   obtain⟨y,h1,h2,h3⟩:=h
   exact⟨y,h1,Fh (by rw[hids y];exact hi.1) (by rw[hids y];exact hi.2) h2.1 h2.2.1 h2.2.2.1 h2.2.2.2,h3⟩
 | ex i=>exact h
 | ret=>exact h
end
end Go.Gv

namespace Go.Gv
open Cod (enc dec)
variable {S S0:Nat->Spc}
def QE(l:List B):List D:=l.map enc
theorem MD(a b:B):D.list 1 [.v (.string a), .v (.string b)]= .list 1 (QE [a,b]):=id rfl
theorem QD(a b c:B):D.list 1 [.v (.string a), .v (.string b), .v (.string c)]= .list 1 (QE [a,b,c]):=id rfl
theorem lm(l:List B):(QE l).length=l.length:=by simp[QE]
theorem qs(l:List B)(i:Nat)(d:D):((QE l)[i]? =some d)=∃s,l[i]? =some s/\ .v (.string s)=d:=by
 simp[QE]
def qeq(n:Nat)(ns:List wX):Prop:=(∀x∈ns,0<=x.b/\x.b<=n/\0<=x.e/\x.e<=n)/\∀ (j:Nat) (y:wX),ns[j]? =some y->y.par < j
def PN(c c':Corpus):Prop:=∃ns,c'={ c with nodes:=ns } /\ns.length<=6/\qeq c.toks.length ns
def Bu(c:Corpus):Prop:=c.toks.length<=4096
theorem XW(h1:S ca=s_m_Next):PM rV rv S qpQ qfW Bu PN:=by
 intro L b c hc
 have hc:c.toks.length<=4096:=hc
 simp[rV,rv,h1,qpQ]
 intro _ k hk0 hk1
 refine mD (X:=Int×Int×Value×List wX) [0,1,4] [] [] [] [] [] (fun x=>0<=x.1/\x.1<=c.toks.length/\0<=x.2.1/\2*x.2.1+x.2.2.2.length<=6/\qeq c.toks.length x.2.2.2) (fun x=>[(5,enc x.1),(6,enc x.2.1)]) (fun x=>[(1, .box b [enc c.attrs,enc c.toks,enc c.texts,enc c.regs, .own 61 x.2.2.1, .v (.slice none 0 0), .v (.slice none 0 0)]),(61, .row x.2.2.1 uH 4 (x.2.2.2.map enc))]) (fun x=>x.2.1.toNat) (0,k, .slice none 0 0, []) [1,61] (fun _=>rfl) (by decide) (by decide) ?_ ?_ ?_ ?_
 ·simp[qeq];omega
 ·simp
 ·simp[isNilRow]
  exact .nilown 61
 ·rintro⟨at_,k,v,l⟩ ⟨q1,q2,q3,q4,q5⟩
  simp only at q1 q2 q3 q4 q5
  simp[h1,MD,lm,qs]
  have fin:qil qfW b (PN c) (D.tup []) (ah (ah (ah (fun x=>none) 96 none) 61 (some (Res.row v uH 4 (List.map enc l)))) 1 (some (Res.box b [D.list 2 (List.map enc c.attrs),D.list 1 (List.map enc c.toks),D.list 4 (List.map enc c.texts),D.list 4 (List.map enc c.regs),D.own 61 v,D.v (Value.slice none 0 0),D.v (Value.slice none 0 0)]))):=by
   refine⟨{ c with nodes:=l },_,rfl,rfl,?_,⟨l,rfl,by omega,q5⟩⟩
   simp[qfW]
   exact gl uH rfl
  refine⟨fun hk=>⟨fun hat y hy0 hy1=>⟨by simp only[InR];omega,fun _=>fin,fun hb=>⟨by simp only[InR];omega,by simp only[InR];omega,by omega,fun y1 hy1'=>⟨by simp only[InR];omega,fun _ z hz0 hz1=>⟨hz0,hz1,fun lb hlb=>⟨by omega,by omega,fun v1=>?_⟩⟩⟩⟩⟩,fun _=>fin⟩,fun _=>fin⟩
  have hb0:0<=at_+y:=by omega
  generalize at_+y=b' at*
  have he:b'+1+y1<=c.toks.length/\0<=y1:=by omega
  generalize hee:b'+1+y1=e' at*
  have ok1:qeq c.toks.length (l++ [⟨lb,b',e', -1⟩]):=by
   refine⟨fun x hx=>?_,fun j x hx=>?_⟩
   ·rcases qxE.1 hx with hx|hx
    ·exact q5.1 x hx
    ·simp at hx;subst hx;simp only;omega
   ·by_cases e:j < l.length
    ·rw[qxT e]at hx;exact q5.2 j x hx
    ·rw[qxJ (by omega)]at hx
     have hx:=qxC hx
     simp at hx;subst hx;simp only;omega
  refine aR (X:=Value×List wX) [0,1,4,6,8] [] (fun x=>x.2.length<=l.length+2/\qeq c.toks.length x.2) (fun _=>[]) (fun x=>[(1, .box b [enc c.attrs,enc c.toks,enc c.texts,enc c.regs, .own 61 x.1, .v (.slice none 0 0), .v (.slice none 0 0)]),(61, .row x.1 uH 4 (x.2.map enc))]) ?_ ?_
  ·simp[h1,MD,lm,qs]
   refine fun u hu0 hu1=>⟨fun _=>⟨by simp only[InR];omega,by omega,fun y2 hy2=>⟨by simp only[InR];omega,fun z2 hz20 hz21=>⟨hz20,hz21,fun lb2 _=>⟨by simp only[InR];omega,by simp only[InR];omega,by omega,fun y3 hy3=>⟨by simp only[InR];omega,by omega,by omega,fun v2=>⟨v2,l++ [⟨lb,b',e', -1⟩] ++ [⟨lb2,b'+y2,b'+y2+1+y3,l.length⟩],⟨by simp,?_⟩, .inl rfl, .inl ⟨rfl,by simp⟩⟩⟩⟩⟩⟩⟩,fun _=>⟨v1,l++ [⟨lb,b',e', -1⟩],⟨by simp,ok1⟩, .inl rfl, .inl ⟨rfl,by simp⟩⟩⟩
   refine⟨fun x hx=>?_,fun j x hx=>?_⟩
   ·rcases qxE.1 hx with hx|hx
    ·exact ok1.1 x hx
    ·simp at hx;subst hx;simp only;omega
   ·by_cases e:j < (l++ [(⟨lb,b',e', -1⟩:wX)]).length
    ·rw[qxT e]at hx;exact ok1.2 j x hx
    ·rw[qxJ (by omega)]at hx
     have hx:=qxC hx
     simp at hx;subst hx;simp at e;simp only;omega
  ·rintro⟨v2,l2⟩ ⟨r1,r2⟩
   simp only at r1 r2
   simp
   exact⟨by simp only[InR];omega,e',k -1,v2,l2,⟨by omega,by omega,by omega,by omega,r2⟩,⟨⟨rfl,rfl⟩, .inl (.inl rfl), .inl (.inl rfl)⟩,by omega⟩
end Go.Gv

namespace Go.Gv
theorem Z2{σ:Sg}{H:ab}(t id:Nat)(x:Value)(el n:Nat)(es:List D)(h1:σ t= .own id x)(h2:H id=some (.row x el n es)):Wk σ H (upd σ t (.sub id x n 0 es.length)) H:=by
 intro E a w ⟨hd,hN,tp,hw,hr⟩
 refine⟨hd,hN,tp,hw,fun s=>?_⟩
 unfold upd
 split
 ·rename_i e
  subst e
  have h3:=hr s
  rw[h1]at h3
  have e1:a.tmps.getD s undef=x:=by
   generalize a.tmps.getD s undef=y at h3
   cases h3;rfl
  obtain⟨xs,⟨_,h4⟩,_⟩:=hw.sat.ok id _ h2
  rw[e1]
  rcases h4 with⟨rfl,h5⟩|⟨g,cap,cur,rfl,_,_,h6,h7,_⟩
  ·rw[h5]
   exact .subnil id n
  ·exact .sub id g es.length cap n 0 es.length _ (qx3 _) (qxI _) h6 h7 (fun _=>by simp)
 ·exact hr s
open Cod (enc dec) in
theorem qnD{X:Type}[Cod X]{H:ab}{id n hi:Nat}{v:Value}{l:List X}(el:Nat)(h:H id=some (.row v el n (l.map enc)))(hh:hi=l.length)(hn:n=Cod.wd X:=by rfl):FrzTo H (.sub id v n 0 hi) (.list n (l.map enc)):=by
 subst hh
 have e:((l.map (enc (X:=X))).take l.length).drop 0=l.map enc:=by
  rw[List.drop_zero,qze (by simp)]
 refine .sub h (by rw[e]) (fun d hd=>?_) (fun k c c' h1 h2=>?_)
 ·obtain⟨x,_,rfl⟩:=qxL.1 hd
  exact⟨Cod.kn x,(Cod.wid x).trans hn.symm⟩
 ·rw[e,h2]at h1
  cases h1
  exact .same _
end Go.Gv

namespace Go.Gv
open Cod (enc dec)
variable {S S0:Nat->Spc}
def qho(n:Nat)(hs:List Int)(rs:List B):Prop:=hs.length=n/\rs.length=n/\∀h∈hs,h<=n
def XA(c c':Corpus):Prop:=∃hs rs,c'={ c with heads:=hs,rels:=rs } /\hs.length<=c.toks.length/\rs.length<=c.toks.length/\∀h∈hs,h<=c.toks.length
theorem XX(h1:S ca=s_m_Next):PM rX rA S qfW qnz Bu XA:=by
 intro L b c hc
 have hc:c.toks.length<=4096:=hc
 simp[rX,rA,h1,qfW]
 intro _
 refine mD (X:=Int×List Int) [0,1,4] [1] [] [27] [] [] (fun x=>0<=x.1/\x.1<=c.toks.length/\(x.2.length:Int)=x.1/\∀y∈x.2,0<=y/\y < c.toks.length) (fun x=>[(5,enc x.2),(6,enc x.1)]) (fun x=>[]) (fun x=>c.toks.length -x.1.toNat) (0, []) [] (fun _=>rfl) (by decide) (by decide) ?_ ?_ ?_ ?_
 ·simp
 ·simp
 ·simp
 ·rintro⟨i,l⟩ ⟨q1,q2,q3,q4⟩
  simp only at q1 q2 q3 q4
  simp[h1]
  refine⟨fun hi=>⟨by simp only[InR];omega,by omega,fun y hy=>?_⟩,fun hi=>?_⟩
  ·have e:List.take y.toNat (List.map enc l) ++D.v (.int .i64 i)::List.drop y.toNat (List.map enc l)=(l.take y.toNat++i::l.drop y.toNat).map enc:=by simp
   refine⟨by omega,by omega,by omega,by omega,by omega,by omega,by omega,by omega,by omega,by omega,fun v=>⟨by simp only[InR];omega,i+1,l.take y.toNat++i::l.drop y.toNat,⟨by omega,by omega,?_,fun z hz=>?_⟩,⟨?_,rfl⟩,by omega⟩⟩
   ·simp;omega
   ·rcases qxE.1 hz with hz|hz
    ·exact q4 z (qxW hz)
    ·rcases qxD.1 hz with hz|hz
     ·omega
     ·exact q4 z (qyt hz)
   ·rw[e]
    exact gl iB (by simp[Hh])
  ·have hil:l.length=c.toks.length:=by omega
   refine⟨by omega,by omega,fun v8=>⟨by omega,by omega,fun v9=>?_⟩⟩
   refine aR (X:=Bool×List Int×List B) [1] [1] (fun x=>qho c.toks.length x.2.1 x.2.2) (fun x=>[(8, .sub 40 v8 1 0 c.toks.length),(9, .sub 42 v9 1 0 c.toks.length),(10,enc x.1)]) (fun x=>[(40, .row v8 iB 1 (x.2.1.map enc)),(42, .row v9 au 1 (x.2.2.map enc))]) ?_ ?_
   ·simp[-Bool.exists_bool]
    intro _
    refine Ft ((Z2 8 40 v8 iB 1 _ rfl rfl).trans (Z2 9 42 v9 au 1 _ rfl rfl)) ?_
    simp only[qmn]
    refine ai (X:=Bool×List Int×List B) [0,1,5,8,9,43] [1] l.length (fun _ x=>qho c.toks.length x.2.1 x.2.2) (fun x=>[(10,enc x.1)]) (fun x=>[(40, .row v8 iB 1 (x.2.1.map enc)),(42, .row v9 au 1 (x.2.2.map enc))]) (false,List.replicate c.toks.length 0,List.replicate c.toks.length ⟨#[]⟩) (by simp) (by simp) (by omega) (by simp) (by simp) (by simp[qho]) (by simp) (by simp) ?_ ?_
    ·rintro k ⟨sm,hs,rs⟩ hk ⟨p1,p2,p3⟩
     simp only at p1 p2 p3
     obtain⟨x,hx⟩:=bJ hk
     obtain⟨_,hgx⟩:=qxz.1 hx
     have hxr:=q4 x (bj hx)
     simp[hk,hx,hgx, -Bool.exists_bool]
     refine⟨by omega,by omega,by omega,fun a ha=>?_⟩
     have e1:(List.map enc hs).set x.toNat (D.v (Value.int .i64 (-1)))=(hs.set x.toNat (-1)).map enc:=iW hs _ _
     rw[e1]
     have p1':(hs.set x.toNat (-1)).length=c.toks.length:=by simp[p1]
     have p3':∀h∈hs.set x.toNat (-1),h<=c.toks.length:=fun h hh=>by
      rcases qyA hh with hh|hh
      ·exact p3 h hh
      ·omega
     generalize hs.set x.toNat (-1)=hs1 at p1' p3' ⊢
     clear p1 p3 ha e1
     refine aR (X:=List Int×List B) [0,1,5,8,9,10,12,43,44,45] [1] (fun x=>qho c.toks.length x.1 x.2) (fun _=>[]) (fun x=>[(40, .row v8 iB 1 (x.1.map enc)),(42, .row v9 au 1 (x.2.map enc))]) ?_ ?_
     ·simp[h1,QD,lm,qs, -Bool.exists_bool]
      have hlx:∀ (y:Int),hs1.length=c.toks.length->∃z,hs1[x.toNat]? =some z:=fun _ _=>bJ (by omega)
      refine⟨fun hk0 y _ _=>⟨fun _=>⟨by omega,fun y2 hy2=>⟨by omega,by omega,fun a ha y3 hy30 hy31=>⟨hy30,hy31,fun s _=>⟨by omega,by omega,by omega,fun z _=>⟨by omega,by omega,by omega,fun z2 _=>⟨hs1.set x.toNat a,rs.set x.toNat s,⟨by simp[p1'],by simp[p2],fun h hh=>?_⟩, .inl (iW hs1 _ _), .inl (iW rs _ _)⟩⟩⟩⟩⟩⟩,fun _=>⟨hs1,rs,⟨p1',p2,p3'⟩, .inl rfl, .inl rfl⟩⟩,fun _=>⟨hs1,rs,⟨p1',p2,p3'⟩, .inl rfl, .inl rfl⟩⟩
      rcases qyA hh with hh|hh
      ·exact p3' h hh
      ·have:=q4 a (bj ha)
       omega
     ·rintro⟨hs2,rs2⟩ ⟨r1,r2,r3⟩
      simp only at r1 r2 r3
      simp[-Bool.exists_bool]
      refine⟨fun _=>⟨by omega,by omega,by omega,fun a _=>⟨fun _=>⟨by omega,by omega,by omega,fun a2 _=>⟨!decide (a2=⟨#[]⟩),hs2,rs2,⟨r1,r2,r3⟩,by simp, .inl rfl, .inl rfl⟩⟩,fun _=>⟨true,hs2,rs2,⟨r1,r2,r3⟩,by simp, .inl rfl, .inl rfl⟩⟩⟩,fun _=>⟨true,hs2,rs2,⟨r1,r2,r3⟩,by simp, .inl rfl, .inl rfl⟩⟩
    ·rintro⟨sm,hs,rs⟩ ⟨p1,p2,p3⟩
     simp only at p1 p2 p3
     simp[-Bool.exists_bool]
     exact⟨sm,hs,rs,⟨p1,p2,p3⟩,rfl, .inl rfl, .inl rfl⟩
   ·rintro⟨sm,hs,rs⟩ ⟨p1,p2,p3⟩
    simp only at p1 p2 p3
    simp
    refine⟨fun _=>⟨{ c with heads:=hs,rels:=rs },_,rfl,rfl,?_,⟨hs,rs,rfl,by omega,by omega,p3⟩⟩,fun _=>⟨{ c with heads:=[],rels:=[] },_,rfl,rfl,?_,⟨[], [],rfl,by simp,by simp,by simp⟩⟩⟩
    ·simp[qnz]
     exact⟨qnD iB rfl p1.symm,qnD au rfl p2.symm⟩
    ·simp[qnz]
end Go.Gv

namespace Go.Gv
open Cod (enc dec)
variable {S S0:Nat->Spc}
abbrev s_m_word:Spc:=aI (a1 Int) (fun n=>0<=n/\n < 6) (enc (X:=B)) fun _ y=>y∈Tf
theorem qab:aq Gr FH S (a1 Int) (fun n=>0<=n/\n < 6) (enc (X:=B)) fun _ y=>y∈Tf:=by
 rintro n hn
 have hn:0<=n/\n < 6:=hn
 simp[Gr,FH]
 refine⟨hn.1,hn.2,?_⟩
 have:n=0\/n=1\/n=2\/n=3\/n=4\/n=5:=by omega
 rcases this with rfl|rfl|rfl|rfl|rfl|rfl <;> simp[Tf]
abbrev s_m_tag:Spc:=aI (a1 Int) (fun n=>0<=n/\n < 2) (enc (X:=B)) fun _ y=>y∈qd7
theorem qeU:aq KZ Jw S (a1 Int) (fun n=>0<=n/\n < 2) (enc (X:=B)) fun _ y=>y∈qd7:=by
 rintro n hn
 have hn:0<=n/\n < 2:=hn
 simp[KZ,Jw]
 refine⟨hn.1,hn.2,?_⟩
 have:n=0\/n=1:=by omega
 rcases this with rfl|rfl <;> simp[qd7]
abbrev s_m_features:Spc:=aI (a1 Int) (fun n=>0<=n/\n < 4) (enc (X:=B)) fun _ y=>y∈NF
theorem NY:aq wj vz S (a1 Int) (fun n=>0<=n/\n < 4) (enc (X:=B)) fun _ y=>y∈NF:=by
 rintro n hn
 have hn:0<=n/\n < 4:=hn
 simp[wj,vz]
 refine⟨hn.1,hn.2,?_⟩
 have:n=0\/n=1\/n=2\/n=3:=by omega
 rcases this with rfl|rfl|rfl|rfl <;> simp[NF]
abbrev s_m_Type:Spc:=aI (a1 Int) bK (enc (X:=B)) qJ
theorem qac(h1:S uW=s_m_Mod):aq wR wE S (a1 Int) bK (enc (X:=B)) qJ:=by
 rintro n -
 simp[wR,wE,h1]
 have h3:=J7 n 3 (by omega)
 refine⟨h3.1,h3.2,?_⟩
 have:F6 n 3=0\/F6 n 3=1\/F6 n 3=2:=by omega
 rcases this with h|h|h <;> simp[h]
abbrev s_m_Attributes:Spc:=aI a0 bK (enc (X:=List Attr)) (fun _ l=>qik l)
theorem IM:aq rZ rC S a0 bK (enc (X:=List Attr)) (fun _ l=>qik l):=by
 rintro x -
 simp[rZ,rC]
 exact cp (Y:=List Attr) [⟨⟨#[119,111,114,100]⟩,false⟩,⟨⟨#[116,97,103]⟩,false⟩,⟨⟨#[102,101,97,116]⟩,true⟩] (by simp) rfl
end Go.Gv

namespace Go.Gv
open Cod (enc dec)
variable {S S0:Nat->Spc}
abbrev s_m_nodes:Spc:=qrA qpQ qfW Bu PN
abbrev s_m_heads:Spc:=qrA qfW qnz Bu XA
theorem qcN{H:ab}{id el n:Nat}{v:Value}{d d':D}(h:H id=some (.row v el n [d]))(hd:FrzTo H d d')(hk:d'.kn=true/\d'.cells.length=n):FrzTo H (.own id v) (.list n [d']):=by
 refine .row h rfl (fun e he=>?_) (fun k c c' h1 h2=>?_)
 ·simp at he;subst he;exact hk
 ·cases k with
  | zero=>simp at h1 h2;subst h1;subst h2;exact hd
  | succ k=>simp at h1
def qcx(l:List Int):List D:=l.map enc
theorem qnq(a b c d e f g h:Int):D.list 1 [.v (.int .i64 a), .v (.int .i64 b), .v (.int .i64 c), .v (.int .i64 d), .v (.int .i64 e), .v (.int .i64 f), .v (.int .i64 g), .v (.int .i64 h)]= .list 1 (qcx [a,b,c,d,e,f,g,h]):=id rfl
theorem qcw(l:List Int):(qcx l).length=l.length:=by simp[qcx]
theorem qgl(l:List Int)(i:Nat)(d:D):((qcx l)[i]? =some d)=∃s,l[i]? =some s/\ .v (.int .i64 s)=d:=by
 simp[qcx]
theorem qas{l:List (List B)}{r:List B}(h:∀x∈l,E9 x)(hr:E9 r):∀x∈l++ [r],E9 x:=fun x hx=>by
 rcases qxE.1 hx with hx|hx
 ·exact h x hx
 ·rw[qzc]at hx;rw[hx];exact hr
theorem N0(h1:S ca=s_m_Next)(h2:S tL=s_m_Attributes)(h3:S KC=s_m_word)(h4:S Pj=s_m_tag)(h5:S yi=s_m_features)
 (h6:S qV=s_m_Type) (h7:S nO=s_r06_SortRegions) (h8:S tI=s_m_nodes) (h9:S tJ=s_m_heads):
 aq mz lU S (aT (a2 B Int)) (fun x=>1<=x.2.2/\x.2.2<=1000) (enc (X:=Corpus)) (fun x c=>Ts c/\PV c/\(c.toks.length:Int)<=x.2.2):=by
 rintro⟨L,name,most⟩ hm
 have hm:1<=most/\most<=1000:=hm
 simp[mz,lU,h1,h2]
 refine fun b6=>⟨by omega,fun y hy=>⟨by simp only[InR];omega,trivial,fun at_ hat v26 b8=>?_⟩⟩
 have hal:at_.length=3:=by rw[show at_=gj from hat];rfl
 obtain⟨n,hn0,hn⟩:∃n:Nat,1+y=(n:Int)/\1<=n/\n<=1000:=⟨(1+y).toNat,by omega,by omega⟩
 rw[hn0]
 refine gy (X:=oW) [0,6,7,8] [6] [26] [] (fun t=>t.b=0/\t.e=n) (fun _=>[]) (fun t=>[(8, .box b8 [enc at_, .v (.slice none 0 0),enc [t], .v (.slice none 0 0), .v (.slice none 0 0), .v (.slice none 0 0), .v (.slice none 0 0)])]) [8] (fun _=>rfl) (by decide) ?_ ?_
 ·simp[h1,QD,lm,qs]
  refine fun z _ _=>⟨fun _ u hu0 hu1=>⟨hu0,hu1,fun s _=>⟨⟨name,0,n, [⟨⟨#[121,101,97,114]⟩,s⟩]⟩,⟨rfl,rfl⟩, .inl (qcN (el:=Bc) (by simp[Hh]) (.same _) ⟨rfl,rfl⟩)⟩⟩,fun _=>⟨⟨name,0,n, []⟩,⟨rfl,rfl⟩, .inl (qcN (el:=Bc) (by simp[Hh];rfl) ?_ ⟨rfl,rfl⟩)⟩⟩
  rw[bE,bE,bE,bE]
  exact⟨.same _, .same _, .same _, .nil _, .same _⟩
 ·rintro t ⟨ht1,ht2⟩
  refine gy (X:=List (List B)) [0,6,7,8] [6] [66] [] (fun l=>l.length=n/\∀r∈l,E9 r) (fun _=>[]) (fun l=>[(8, .box b8 [enc at_,enc l,enc [t], .v (.slice none 0 0), .v (.slice none 0 0), .v (.slice none 0 0), .v (.slice none 0 0)])]) [8] (fun _=>rfl) (by decide) ?_ ?_
  ·simp[h1]
   refine mD (X:=Int×Value×List (List B)) [0,6,7,8] [6] [] [] [] [] (fun x=>0<=x.1/\x.1<=n/\(x.2.2.length:Int)=x.1/\∀r∈x.2.2,E9 r) (fun x=>[(9,enc x.1)]) (fun x=>[(8, .box b8 [enc at_, .own 66 x.2.1,enc [t], .v (.slice none 0 0), .v (.slice none 0 0), .v (.slice none 0 0), .v (.slice none 0 0)]),(66, .row x.2.1 mG 1 (x.2.2.map enc))]) (fun x=>n -x.1.toNat) (0, .slice none 0 0, []) [8,66] (fun _=>rfl) (by decide) (by decide) ?_ ?_ ?_ ?_
   ·simp
   ·simp
   ·simp[isNilRow]
    exact .nilown 66
   ·rintro⟨i,v,l⟩ ⟨q1,q2,q3,q4⟩
    simp only at q1 q2 q3 q4
    simp[h1,h3,h4,h5,qnq,qcw,qgl]
    refine⟨fun hi y hy0 hy1=>?_,fun hi=>⟨l,⟨by omega,q4⟩, .inl (gl mG (by simp[Hh]))⟩⟩
    have a1:y.tmod 8=y % 8:=Int.tmod_eq_emod_of_nonneg hy0
    have a2:y.tdiv 8=y/8:=Int.tdiv_eq_ediv_of_nonneg hy0
    have a3:(y/8).tmod 2=(y/8) % 2:=Int.tmod_eq_emod_of_nonneg (by omega)
    have a4:y.tdiv 12=y/12:=Int.tdiv_eq_ediv_of_nonneg hy0
    rw[a1,a2,a3,a4]
    refine⟨by omega,by omega,fun s hs=>⟨?_,fun w1 hw1=>⟨by simp only[InR];omega,by omega,fun w2 hw2=>⟨by simp only[InR];omega,by omega,fun w3 hw3=>⟨by omega,by omega,fun v2=>⟨by simp only[InR];omega,i+1,v2,l++ [[w1,w2,w3]],⟨by omega,by omega,by simp;omega,qas q4 ⟨w1,w2,w3,hw1,hw2,hw3,rfl⟩⟩,⟨rfl, .inl (.inl rfl), .inl (.inl (by simp))⟩,by omega⟩⟩⟩⟩⟩⟩
    have:=qxC hs
    simp at this
    omega
  ·rintro toks ⟨htk,hto⟩
   refine gy (X:=List Region) [0,6,7,8] [6,8] [165] [] (fun l=>l.length<=8/\∀r∈l,0<=r.b/\r.b<=n/\0<=r.e/\r.e<=n) (fun l=>[(11,enc l)]) (fun _=>[]) [] (fun _=>rfl) (by decide) ?_ ?_
   ·simp[h1]
    intro k hk0 hk1
    refine mD (X:=Int×Value×List Region) [0,6,7,8] [6,8] [] [] [] [] (fun x=>0<=x.1/\x.1+x.2.2.length<=4/\∀r∈x.2.2,0<=r.b/\r.b<=n/\0<=r.e/\r.e<=n) (fun x=>[(11, .own 165 x.2.1),(12,enc x.1)]) (fun x=>[(165, .row x.2.1 mF 4 (x.2.2.map enc))]) (fun x=>x.1.toNat) (k, .slice none 0 0, []) [165] (fun _=>rfl) (by decide) (by decide) ?_ ?_ ?_ ?_
    ·simp;omega
    ·simp
     exact .nilown 165
    ·simp[isNilRow]
    ·rintro⟨k,v,l⟩ ⟨q1,q2,q3⟩
     simp only at q1 q2 q3
     simp[h1,h6]
     refine⟨fun hk=>⟨by omega,fun u hu z _ _=>⟨trivial,fun ty=>⟨by simp only[InR];omega,by simp only[InR];omega,by omega,fun w hw=>⟨by simp only[InR];omega,fun b14=>?_⟩⟩⟩⟩,fun hk=>⟨l,⟨by omega,q3⟩,gl mF (by simp[Hh])⟩⟩
     have hr:0<=u/\u<=n/\0<=u+1+w/\u+1+w<=n:=by omega
     generalize u+1+w=e' at*
     refine gy (X:=List Pair) [0,6,7,8,11,12,14] [6,8,165] [] [] (fun _=>True) (fun _=>[]) (fun kv=>[(14, .box b14 [.v (.string ty), .v (.int .i64 u), .v (.int .i64 e'),enc kv])]) [14] (fun _=>rfl) (by decide) ?_ ?_
     ·simp[h1,MD,lm,qs]
      exact fun _ _ _ _ q hq0 hq1=>⟨hq0,hq1,fun s _=>⟨[⟨⟨#[110]⟩,s⟩], .inl (.inl rfl)⟩⟩
     ·rintro kv -
      simp only[qjY,qgd]
      simp
      refine aR (X:=Bool) [0,6,7,8,11,12,14] [6,8,14,165] (fun _=>True) (fun x=>[(15,enc x)]) (fun _=>[]) ?_ ?_
      ·simp[-Bool.exists_bool]
       intro _
       refine ai (X:=Bool) [0,6,7,8,11,12,14,101] [6,8,14,165] l.length (fun _ _=>True) (fun x=>[(15,enc x)]) (fun _=>[]) false (by simp) (by simp) (by omega) (by simp) (by simp) trivial (by simp) (by simp) ?_ ?_
       ·rintro j cr hj -
        obtain⟨x,hx⟩:=bJ hj
        obtain⟨_,hgx⟩:=qxz.1 hx
        simp[hj,hx,hgx, -Bool.exists_bool]
        exact fun _ _ _ _=>⟨fun _ _ _=>⟨_,(Bool.not_not _).symm⟩,fun _ _=>⟨_,(Bool.not_not _).symm⟩⟩
       ·rintro cr -
        simp[-Bool.exists_bool]
      ·rintro cr -
       simp[-Bool.exists_bool]
       refine⟨fun _=>⟨by omega,by omega,fun v2=>⟨by simp only[InR];omega,k -1,v2,l++ [⟨ty,u,e',kv⟩],⟨by omega,by simp;omega,fun r hrr=>?_⟩,⟨⟨.same _,rfl⟩, .inl (.inl (by simp))⟩,by omega⟩⟩,fun _=>⟨by simp only[InR];omega,k -1,v,l,⟨by omega,by omega,q3⟩,⟨⟨.same _,rfl⟩, .inl (.inl rfl)⟩,by omega⟩⟩
       rcases qxE.1 hrr with hrr|hrr
       ·exact q3 r hrr
       ·simp at hrr;subst hrr;exact hr
   ·rintro rg ⟨hr1,hr2⟩
    simp[h7,h8]
    refine⟨by simp only[Vr];omega,fun rs ⟨hs1,hs2⟩=>⟨⟨at_,toks, [t],rs, [], [], []⟩,by simp[qpQ],by simp only[Bu];omega,fun c hc=>?_⟩⟩
    obtain⟨ns,rfl,hns,hnd⟩:=hc
    simp only at hnd
    simp[qfW]
    refine gy (X:=List Int×List B) [6,8] [6] [] [] (fun x=>x.1.length<=n/\x.2.length<=n/\∀h∈x.1,h<=n) (fun _=>[]) (fun x=>[(8, .box b8 [enc at_,enc toks,enc [t],enc rs,enc ns,enc x.1,enc x.2])]) [8] (fun _=>rfl) (by decide) ?_ ?_
    ·simp[h1,h9]
     refine fun z _ _=>⟨fun _=>⟨⟨at_,toks, [t],rs,ns, [], []⟩,by simp[qfW],by simp only[Bu];omega,fun c hc=>?_⟩,fun _=>⟨[], [],⟨by simp,by simp,by simp⟩, .inl ⟨rfl,rfl⟩⟩⟩
     obtain⟨hs,rl,rfl,g1,g2,g3⟩:=hc
     simp only at g1 g2 g3
     simp[qnz]
     exact⟨hs,rl,⟨by omega,by omega,fun h hh=>by have:=g3 h hh;omega⟩, .inl (.inl ⟨rfl,rfl⟩)⟩
    ·rintro⟨hs,rl⟩ ⟨p1,p2,p3⟩
     simp only at p1 p2 p3
     simp
     refine cp ⟨at_,toks, [t],rs,ns,hs,rl⟩ (.same _) ⟨?_,⟨hat,hto⟩,by show(toks.length:Int)<=most;omega⟩
     refine⟨⟨ht1,by omega,by show t.e=(toks.length:Int);omega⟩,by simp,by simp only;omega,by simp,by simp only;omega,by simp only;omega,by simp only;omega,by simp only;omega,by simp only;omega,fun r hr=>?_,fun m hm=>?_,hnd.2,fun h hh=>?_⟩
     ·have:=hr2 r (hs2 r hr)
      simp only
      omega
     ·have:=hnd.1 m hm
      simp only
      omega
     ·have:=p3 h hh
      simp only
      omega
end Go.Gv

namespace Go.Gv
open Go.Proofs
theorem Oh:Tri Tryz.prog uW s_m_Mod.pt:=
 ae (ag ac) qbP (fun _=>qxy rfl) (qeW)
theorem cU:Tri Tryz.prog ca s_m_Next.pt:=qar (S:=Ig [(uW,s_m_Mod)]) (ag (aa Oh ac)) rfl JZ (by decide)
theorem qfk:Tri Tryz.prog Pk s_m_New.pt:=qfh (TP (ag ac) qbO (by decide) qeV)
theorem GX:Tri Tryz.prog uU s_r04_First.pt:=
 ae (ag ac) OQ (fun _=>qxy rfl) (Qe)
theorem TX:Tri Tryz.prog Db s_r04_Next.pt:=
 ae (ag (aa GX ac)) Rq (fun _=>qxy rfl) (Tx rfl)
theorem fa:Tri Tryz.prog de s_r04_ValidName.pt:=
 ae (ag (aa GX (aa TX ac))) FO (fun _=>qxy rfl) (Hp rfl rfl)
theorem QC:Tri Tryz.prog AK s_r01_Units.pt:=
 ae (ag ac) OS (fun _=>qxy rfl) (Qg)
theorem QB:Tri Tryz.prog AJ s_r01_Valid.pt:=
 ae (ag (aa QC ac)) OR (fun _=>qxy rfl) (Qf rfl)
theorem pf:Tri Tryz.prog fY s_r04_ValidValue.pt:=
 ae (ag (aa QB ac)) En (fun _=>qxy rfl) (Fn rfl)
theorem QA:Tri Tryz.prog AI s_r05_Parse.pt:=
 ae (ag (aa pf ac)) OP (fun _=>qxy rfl) (Qc rfl)
theorem TV:Tri Tryz.prog C9 s_r06_sign.pt:=
 ae (ag ac) Rm (fun _=>qxy rfl) (Tv)
theorem LY:Tri Tryz.prog vL s_r06_compare.pt:=
 ae (ag ac) JQ (fun _=>qxy rfl) (Lz)
theorem qK:Tri Tryz.prog fq s_r06_CompareRegions.pt:=
 ae (ag (aa TV (aa LY ac))) zo (fun _=>qxy rfl) (zC rfl rfl)
theorem Fz:Tri Tryz.prog pN s_r06_Attributes.pt:=
 ae (ag (aa fa ac)) Em (fun _=>qxy rfl) (Fm rfl)
theorem Qx:Tri Tryz.prog AF s_r06_Value.pt:=
 ae (ag (aa QA (aa pf ac))) OM (fun _=>qxy rfl) (P9 rfl rfl)
theorem GW:Tri Tryz.prog uT s_r06_pairs.pt:=
 ae (ag (aa fa (aa pf ac))) OK (fun _=>qxy rfl) (P7 rfl rfl)
theorem DV:Tri Tryz.prog sy s_r06_within.pt:=
 ae (ag ac) L3 (fun _=>qxy rfl) (NO)
theorem TW:Tri Tryz.prog Da s_r06_bare.pt:=
 ae (ag ac) Ro (fun _=>qxy rfl) (Tw)
theorem Oe:Tri Tryz.prog yd s_r06_TextAt.pt:=
 ae (ag ac) L6 (fun _=>qxy rfl) (NR)
theorem I4:Tri Tryz.prog tG s_r06_FindText.pt:=
 ae (ag ac) HM (fun _=>qxy rfl) (IF)
theorem zN:Tri Tryz.prog jF s_r06_sameAttributes.pt:=
 ae (ag ac) zn (fun _=>qxy rfl) (zB)
theorem Od:Tri Tryz.prog yc s_r06_cyclic.pt:=
 ae (ag ac) L5 (fun _=>qxy rfl) (NQ)
theorem Oc:Tri Tryz.prog yb s_r06_tokens.pt:=
 ae (ag (aa Qx ac)) L4 (fun _=>qxy rfl) (NP rfl)
theorem Qv:Tri Tryz.prog AD s_r06_texts.pt:=
 ae (ag (aa fa (aa GW ac))) OJ (fun _=>qxy rfl) (P6 rfl rfl)
theorem LX:Tri Tryz.prog vK s_r06_regions.pt:=
 ae (ag (aa fa (aa GW (aa DV (aa qK ac))))) JP (fun _=>qxy rfl) (Ly rfl rfl rfl rfl)
theorem Qz:Tri Tryz.prog AH s_r06_Nodes.pt:=
 ae (ag (aa fa (aa DV ac))) OO (fun _=>qxy rfl) (Qb rfl rfl)
theorem Qw:Tri Tryz.prog AE s_r06_heads.pt:=
 ae (ag (aa fa (aa TW (aa Oe (aa Od ac))))) OL (fun _=>qxy rfl) (P8 rfl rfl rfl rfl)
theorem I3:Tri Tryz.prog tF s_r06_Validate.pt:=
 ae (ag (aa Fz (aa Oc (aa Qv (aa LX (aa Qz (aa Qw ac))))))) HL (fun _=>qxy rfl) (IE rfl rfl rfl rfl rfl rfl)
theorem Qy:Tri Tryz.prog AG s_r06_Valid.pt:=
 ae (ag (aa I3 ac)) ON (fun _=>qxy rfl) (Qa rfl)
theorem DW:Tri Tryz.prog nO s_r06_SortRegions.pt:=
 ae (ag (aa qK ac)) CA (fun _=>qxy rfl) (Dt rfl)
theorem I2:Tri Tryz.prog tE s_r06_allHeads.pt:=
 ae (ag ac) HK (fun _=>qxy rfl) (ID)
theorem Of:Tri Tryz.prog ye s_r06_Concat.pt:=
 ae (ag (aa Qy (aa zN (aa I4 (aa I2 ac))))) L7 (fun _=>qxy rfl) (NS rfl rfl rfl rfl)
theorem qax:Tri Tryz.prog KC s_m_word.pt:=
 ae (ag ac) YF (fun _=>qxy rfl) (qab)
theorem qfj:Tri Tryz.prog Pj s_m_tag.pt:=
 ae (ag ac) qbN (fun _=>qxy rfl) (qeU)
theorem Og:Tri Tryz.prog yi s_m_features.pt:=
 ae (ag ac) Mf (fun _=>qxy rfl) (NY)
theorem qay:Tri Tryz.prog qV s_m_Type.pt:=
 ae (ag (aa Oh ac)) M1 (fun _=>qxy rfl) (qac rfl)
theorem Jb:Tri Tryz.prog tL s_m_Attributes.pt:=
 ae (ag ac) HU (fun _=>qxy rfl) (IM)
theorem I5:Tri Tryz.prog tI s_m_nodes.pt:=
 GU (ag (aa cU ac)) HQ (by decide) (XW rfl)
theorem Ja:Tri Tryz.prog tJ s_m_heads.pt:=
 GU (ag (aa cU ac)) HS (by decide) (XX rfl)
theorem DX:Tri Tryz.prog nS s_m_Document.pt:=
 ae (ag (aa cU (aa Jb (aa qax (aa qfj (aa Og (aa qay (aa DW (aa I5 (aa Ja ac)))))))))) CG (fun _=>qxy rfl) (N0 rfl rfl rfl rfl rfl rfl rfl rfl rfl)
theorem HG:Tri Tryz.prog rH s_m_Corpus.pt:=
 ae (ag (aa cU (aa DX (aa Of ac)))) FY (fun _=>qxy rfl) (TB rfl rfl rfl)
end Go.Gv
