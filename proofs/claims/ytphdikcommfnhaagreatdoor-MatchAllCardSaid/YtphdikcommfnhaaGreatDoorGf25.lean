/- A part of the framework and of the walks: W15 T20 W16 T21 W18 W9 W19 Asm. -/
import Derived.Test.YtphdikcommfnhaaGreatDoorGf24
import Derived.Test.YtphdikcommfnhaaGreatDoorGf20
import Derived.Test.YtphdikcommfnhaaGreatDoorGf22
import Derived.Test.YtphdikcommfnhaaGreatDoorGf21
set_option linter.unusedSimpArgs false
set_option linter.unusedVariables false
set_option linter.unusedSectionVars false
set_option maxRecDepth 100000

namespace Go.Gv
open Cod (enc dec)
variable {S S0:Nat->Spc}
theorem qee:qdt KF Je S:=by
 intro l
 simp[KF,Je, -List.map_take,zu,DE]
 omega
def qo8(c:Corpus):List D:=[enc c.attrs,enc c.toks,enc c.texts,enc c.regs, .v (.slice none 0 0), .v (.slice none 0 0), .v (.slice none 0 0)]
def qfg(c:Corpus):List D:=[enc c.attrs,enc c.toks,enc c.texts,enc c.regs,enc c.nodes, .v (.slice none 0 0), .v (.slice none 0 0)]
def qmR(c:Corpus):List D:=[enc c.attrs,enc c.toks,enc c.texts,enc c.regs,enc c.nodes,enc c.heads,enc c.rels]
end Go.Gv

namespace Go.Gv
section
variable {S:Nat->Spc}{σ:Sg}{H:ab}{K:Ex->Sg->ab->Prop}
theorem mj{X:Type}(ks hk gv0 gv:List Nat)(rn0 rn:List (Nat×Nat))(P:X->Prop)(sl:X->List (Nat×D))(hp:X->List (Nat×Res))(m:X->Nat)(x0:X)(ids:List Nat)(hids:∀x,(hp x).map (·.1)=ids)
 (hi0:qlq rn0 (ids++hk) gv0/\∀i∈hk,i∉ids->TY rn0 i=i) (hi:qlq rn (ids++hk) gv/\∀i∈hk,i∉ids->TY rn i=i) {k:Nat} {b:CC} (h0:P x0)
 (hs:AU (GV gv0 H) (sl x0) σ) (hh:yr (GV gv0 H) rn0 (hp x0) H)
 (hr:∀x,P x->vc S b (Zz P (fun y=>qdT σ H ks hk gv rn (sl y) (hp y)) m x K) (tY (sl x) (jv ks σ)) (gj (hp x) (ku hk H))):vc S (.loop k b) K σ H:=by
 rw[O6]
 refine⟨⟨X,P,fun x=>tY (sl x) (jv ks σ),fun x=>gj (hp x) (ku hk H),m⟩,⟨x0,h0,EV (by rw[hids x0];exact hi0.1) (by rw[hids x0];exact hi0.2) hs (fun _ _=>rfl) hh (fun _ _=>rfl)⟩,fun x hx=>wJ b _ _ (fun e σ' H' h=>?_) (hr x hx)⟩
 cases e with
 | norm=>
   obtain⟨y,h1,h2,h3⟩:=h
   exact⟨y,h1,EV (by rw[hids y];exact hi.1) (by rw[hids y];exact hi.2) h2.1 h2.2.1 h2.2.2.1 h2.2.2.2,h3⟩
 | ex i=>exact h
 | ret=>exact h
end
end Go.Gv

namespace Go.Gv
open Cod (enc dec)
variable {S S0:Nat->Spc}
def Ql(l:List B):List D:=l.map enc
theorem Mj(a b:B):D.list 1 [.v (.string a), .v (.string b)]= .list 1 (Ql [a,b]):=id rfl
theorem Qk(a b c:B):D.list 1 [.v (.string a), .v (.string b), .v (.string c)]= .list 1 (Ql [a,b,c]):=id rfl
theorem kX(l:List B):(Ql l).length=l.length:=by simp[Ql]
theorem qi(l:List B)(i:Nat)(d:D):((Ql l)[i]? =some d)=∃s,l[i]? =some s/\ .v (.string s)=d:=by
 simp[Ql]
def qdN(n:Nat)(ns:List wF):Prop:=(∀x∈ns,0<=x.b/\x.b<=n/\0<=x.e/\x.e<=n)/\∀ (j:Nat) (y:wF),ns[j]? =some y->y.par < j
def Pt(c c':Corpus):Prop:=∃ns,c'={ c with nodes:=ns } /\ns.length<=6/\qdN c.toks.length ns
def Bf(c:Corpus):Prop:=c.toks.length<=4096
theorem Xs(h1:S bX=s_m_Next):Ps rH rb S qo8 qfg Bf Pt:=by
 intro L b c hc
 have hc:c.toks.length<=4096:=hc
 simp[rH,rb,h1,qo8]
 intro _ k hk0 hk1
 refine mj (X:=Int×Int×Value×List wF) [0,1,4] [] [] [] [] [] (fun x=>0<=x.1/\x.1<=c.toks.length/\0<=x.2.1/\2*x.2.1+x.2.2.2.length<=6/\qdN c.toks.length x.2.2.2) (fun x=>[(5,enc x.1),(6,enc x.2.1)]) (fun x=>[(1, .box b [enc c.attrs,enc c.toks,enc c.texts,enc c.regs, .own 61 x.2.2.1, .v (.slice none 0 0), .v (.slice none 0 0)]),(61, .row x.2.2.1 uj 4 (x.2.2.2.map enc))]) (fun x=>x.2.1.toNat) (0,k, .slice none 0 0, []) [1,61] (fun _=>rfl) (by decide) (by decide) ?_ ?_ ?_ ?_
 ·simp[qdN];omega
 ·simp
 ·simp[isNilRow]
  exact .nilown 61
 ·rintro⟨at_,k,v,l⟩ ⟨q1,q2,q3,q4,q5⟩
  simp only at q1 q2 q3 q4 q5
  simp[h1,Mj,kX,qi]
  have fin:qhE qfg b (Pt c) (D.tup []) (ah (ah (ah (fun x=>none) 96 none) 61 (some (Res.row v uj 4 (List.map enc l)))) 1 (some (Res.box b [D.list 2 (List.map enc c.attrs),D.list 1 (List.map enc c.toks),D.list 4 (List.map enc c.texts),D.list 4 (List.map enc c.regs),D.own 61 v,D.v (Value.slice none 0 0),D.v (Value.slice none 0 0)]))):=by
   refine⟨{ c with nodes:=l },_,rfl,rfl,?_,⟨l,rfl,by omega,q5⟩⟩
   simp[qfg]
   exact gh uj rfl
  refine⟨fun hk=>⟨fun hat y hy0 hy1=>⟨by simp only[InR];omega,fun _=>fin,fun hb=>⟨by simp only[InR];omega,by simp only[InR];omega,by omega,fun y1 hy1'=>⟨by simp only[InR];omega,fun _ z hz0 hz1=>⟨hz0,hz1,fun lb hlb=>⟨by omega,by omega,fun v1=>?_⟩⟩⟩⟩⟩,fun _=>fin⟩,fun _=>fin⟩
  have hb0:0<=at_+y:=by omega
  generalize at_+y=b' at*
  have he:b'+1+y1<=c.toks.length/\0<=y1:=by omega
  generalize hee:b'+1+y1=e' at*
  have ok1:qdN c.toks.length (l++ [⟨lb,b',e', -1⟩]):=by
   refine⟨fun x hx=>?_,fun j x hx=>?_⟩
   ·rcases qwU.1 hx with hx|hx
    ·exact q5.1 x hx
    ·simp at hx;subst hx;simp only;omega
   ·by_cases e:j < l.length
    ·rw[qw9 e]at hx;exact q5.2 j x hx
    ·rw[qwZ (by omega)]at hx
     have hx:=qwS hx
     simp at hx;subst hx;simp only;omega
  refine aS (X:=Value×List wF) [0,1,4,6,8] [] (fun x=>x.2.length<=l.length+2/\qdN c.toks.length x.2) (fun _=>[]) (fun x=>[(1, .box b [enc c.attrs,enc c.toks,enc c.texts,enc c.regs, .own 61 x.1, .v (.slice none 0 0), .v (.slice none 0 0)]),(61, .row x.1 uj 4 (x.2.map enc))]) ?_ ?_
  ·simp[h1,Mj,kX,qi]
   refine fun u hu0 hu1=>⟨fun _=>⟨by simp only[InR];omega,by omega,fun y2 hy2=>⟨by simp only[InR];omega,fun z2 hz20 hz21=>⟨hz20,hz21,fun lb2 _=>⟨by simp only[InR];omega,by simp only[InR];omega,by omega,fun y3 hy3=>⟨by simp only[InR];omega,by omega,by omega,fun v2=>⟨v2,l++ [⟨lb,b',e', -1⟩] ++ [⟨lb2,b'+y2,b'+y2+1+y3,l.length⟩],⟨by simp,?_⟩, .inl rfl, .inl ⟨rfl,by simp⟩⟩⟩⟩⟩⟩⟩,fun _=>⟨v1,l++ [⟨lb,b',e', -1⟩],⟨by simp,ok1⟩, .inl rfl, .inl ⟨rfl,by simp⟩⟩⟩
   refine⟨fun x hx=>?_,fun j x hx=>?_⟩
   ·rcases qwU.1 hx with hx|hx
    ·exact ok1.1 x hx
    ·simp at hx;subst hx;simp only;omega
   ·by_cases e:j < (l++ [(⟨lb,b',e', -1⟩:wF)]).length
    ·rw[qw9 e]at hx;exact ok1.2 j x hx
    ·rw[qwZ (by omega)]at hx
     have hx:=qwS hx
     simp at hx;subst hx;simp at e;simp only;omega
  ·rintro⟨v2,l2⟩ ⟨r1,r2⟩
   simp only at r1 r2
   simp
   exact⟨by simp only[InR];omega,e',k -1,v2,l2,⟨by omega,by omega,by omega,by omega,r2⟩,⟨⟨rfl,rfl⟩, .inl (.inl rfl), .inl (.inl rfl)⟩,by omega⟩
end Go.Gv

namespace Go.Gv
theorem Zx{σ:Sg}{H:ab}(t id:Nat)(x:Value)(el n:Nat)(es:List D)(h1:σ t= .own id x)(h2:H id=some (.row x el n es)):Wk σ H (upd σ t (.sub id x n 0 es.length)) H:=by
 intro E a w ⟨hd,hN,tp,hw,hr⟩
 refine⟨hd,hN,tp,hw,fun s=>?_⟩
 unfold upd
 split
 ·rename_i e
  subst e
  have h3:=hr s
  rw[h1]at h3
  have e1:a.tmps.getD s undef=x:=by
   generalize a.tmps.getD s undef=y at h3
   cases h3;rfl
  obtain⟨xs,⟨_,h4⟩,_⟩:=hw.sat.ok id _ h2
  rw[e1]
  rcases h4 with⟨rfl,h5⟩|⟨g,cap,cur,rfl,_,_,h6,h7,_⟩
  ·rw[h5]
   exact .subnil id n
  ·exact .sub id g es.length cap n 0 es.length _ (qxi _) (qwY _) h6 h7 (fun _=>by simp)
 ·exact hr s
open Cod (enc dec) in
theorem qmV{X:Type}[Cod X]{H:ab}{id n hi:Nat}{v:Value}{l:List X}(el:Nat)(h:H id=some (.row v el n (l.map enc)))(hh:hi=l.length)(hn:n=Cod.wd X:=by rfl):FrzTo H (.sub id v n 0 hi) (.list n (l.map enc)):=by
 subst hh
 have e:((l.map (enc (X:=X))).take l.length).drop 0=l.map enc:=by
  rw[List.drop_zero,qyt (by simp)]
 refine .sub h (by rw[e]) (fun d hd=>?_) (fun k c c' h1 h2=>?_)
 ·obtain⟨x,_,rfl⟩:=qw3.1 hd
  exact⟨Cod.kn x,(Cod.wid x).trans hn.symm⟩
 ·rw[e,h2]at h1
  cases h1
  exact .same _
end Go.Gv

namespace Go.Gv
open Cod (enc dec)
variable {S S0:Nat->Spc}
def qgH(n:Nat)(hs:List Int)(rs:List B):Prop:=hs.length=n/\rs.length=n/\∀h∈hs,h<=n
def WY(c c':Corpus):Prop:=∃hs rs,c'={ c with heads:=hs,rels:=rs } /\hs.length<=c.toks.length/\rs.length<=c.toks.length/\∀h∈hs,h<=c.toks.length
theorem Xt(h1:S bX=s_m_Next):Ps rJ re S qfg qmR Bf WY:=by
 intro L b c hc
 have hc:c.toks.length<=4096:=hc
 simp[rJ,re,h1,qfg]
 intro _
 refine mj (X:=Int×List Int) [0,1,4] [1] [] [27] [] [] (fun x=>0<=x.1/\x.1<=c.toks.length/\(x.2.length:Int)=x.1/\∀y∈x.2,0<=y/\y < c.toks.length) (fun x=>[(5,enc x.2),(6,enc x.1)]) (fun x=>[]) (fun x=>c.toks.length -x.1.toNat) (0, []) [] (fun _=>rfl) (by decide) (by decide) ?_ ?_ ?_ ?_
 ·simp
 ·simp
 ·simp
 ·rintro⟨i,l⟩ ⟨q1,q2,q3,q4⟩
  simp only at q1 q2 q3 q4
  simp[h1]
  refine⟨fun hi=>⟨by simp only[InR];omega,by omega,fun y hy=>?_⟩,fun hi=>?_⟩
  ·have e:List.take y.toNat (List.map enc l) ++D.v (.int .i64 i)::List.drop y.toNat (List.map enc l)=(l.take y.toNat++i::l.drop y.toNat).map enc:=by simp
   refine⟨by omega,by omega,by omega,by omega,by omega,by omega,by omega,by omega,by omega,by omega,fun v=>⟨by simp only[InR];omega,i+1,l.take y.toNat++i::l.drop y.toNat,⟨by omega,by omega,?_,fun z hz=>?_⟩,⟨?_,rfl⟩,by omega⟩⟩
   ·simp;omega
   ·rcases qwU.1 hz with hz|hz
    ·exact q4 z (qxc hz)
    ·rcases qwT.1 hz with hz|hz
     ·omega
     ·exact q4 z (qxJ hz)
   ·rw[e]
    exact gh iw (by simp[GV])
  ·have hil:l.length=c.toks.length:=by omega
   refine⟨by omega,by omega,fun v8=>⟨by omega,by omega,fun v9=>?_⟩⟩
   refine aS (X:=Bool×List Int×List B) [1] [1] (fun x=>qgH c.toks.length x.2.1 x.2.2) (fun x=>[(8, .sub 40 v8 1 0 c.toks.length),(9, .sub 42 v9 1 0 c.toks.length),(10,enc x.1)]) (fun x=>[(40, .row v8 iw 1 (x.2.1.map enc)),(42, .row v9 au 1 (x.2.2.map enc))]) ?_ ?_
   ·simp[-Bool.exists_bool]
    intro _
    refine E9 ((Zx 8 40 v8 iw 1 _ rfl rfl).trans (Zx 9 42 v9 au 1 _ rfl rfl)) ?_
    simp only[qlF]
    refine ai (X:=Bool×List Int×List B) [0,1,5,8,9,43] [1] l.length (fun _ x=>qgH c.toks.length x.2.1 x.2.2) (fun x=>[(10,enc x.1)]) (fun x=>[(40, .row v8 iw 1 (x.2.1.map enc)),(42, .row v9 au 1 (x.2.2.map enc))]) (false,List.replicate c.toks.length 0,List.replicate c.toks.length ⟨#[]⟩) (by simp) (by simp) (by omega) (by simp) (by simp) (by simp[qgH]) (by simp) (by simp) ?_ ?_
    ·rintro k ⟨sm,hs,rs⟩ hk ⟨p1,p2,p3⟩
     simp only at p1 p2 p3
     obtain⟨x,hx⟩:=cj hk
     obtain⟨_,hgx⟩:=qwP.1 hx
     have hxr:=q4 x (bh hx)
     simp[hk,hx,hgx, -Bool.exists_bool]
     refine⟨by omega,by omega,by omega,fun a ha=>?_⟩
     have e1:(List.map enc hs).set x.toNat (D.v (Value.int .i64 (-1)))=(hs.set x.toNat (-1)).map enc:=iQ hs _ _
     rw[e1]
     have p1':(hs.set x.toNat (-1)).length=c.toks.length:=by simp[p1]
     have p3':∀h∈hs.set x.toNat (-1),h<=c.toks.length:=fun h hh=>by
      rcases qxQ hh with hh|hh
      ·exact p3 h hh
      ·omega
     generalize hs.set x.toNat (-1)=hs1 at p1' p3' ⊢
     clear p1 p3 ha e1
     refine aS (X:=List Int×List B) [0,1,5,8,9,10,12,43,44,45] [1] (fun x=>qgH c.toks.length x.1 x.2) (fun _=>[]) (fun x=>[(40, .row v8 iw 1 (x.1.map enc)),(42, .row v9 au 1 (x.2.map enc))]) ?_ ?_
     ·simp[h1,Qk,kX,qi, -Bool.exists_bool]
      have hlx:∀ (y:Int),hs1.length=c.toks.length->∃z,hs1[x.toNat]? =some z:=fun _ _=>cj (by omega)
      refine⟨fun hk0 y _ _=>⟨fun _=>⟨by omega,fun y2 hy2=>⟨by omega,by omega,fun a ha y3 hy30 hy31=>⟨hy30,hy31,fun s _=>⟨by omega,by omega,by omega,fun z _=>⟨by omega,by omega,by omega,fun z2 _=>⟨hs1.set x.toNat a,rs.set x.toNat s,⟨by simp[p1'],by simp[p2],fun h hh=>?_⟩, .inl (iQ hs1 _ _), .inl (iQ rs _ _)⟩⟩⟩⟩⟩⟩,fun _=>⟨hs1,rs,⟨p1',p2,p3'⟩, .inl rfl, .inl rfl⟩⟩,fun _=>⟨hs1,rs,⟨p1',p2,p3'⟩, .inl rfl, .inl rfl⟩⟩
      rcases qxQ hh with hh|hh
      ·exact p3' h hh
      ·have:=q4 a (bh ha)
       omega
     ·rintro⟨hs2,rs2⟩ ⟨r1,r2,r3⟩
      simp only at r1 r2 r3
      simp[-Bool.exists_bool]
      refine⟨fun _=>⟨by omega,by omega,by omega,fun a _=>⟨fun _=>⟨by omega,by omega,by omega,fun a2 _=>⟨!decide (a2=⟨#[]⟩),hs2,rs2,⟨r1,r2,r3⟩,by simp, .inl rfl, .inl rfl⟩⟩,fun _=>⟨true,hs2,rs2,⟨r1,r2,r3⟩,by simp, .inl rfl, .inl rfl⟩⟩⟩,fun _=>⟨true,hs2,rs2,⟨r1,r2,r3⟩,by simp, .inl rfl, .inl rfl⟩⟩
    ·rintro⟨sm,hs,rs⟩ ⟨p1,p2,p3⟩
     simp only at p1 p2 p3
     simp[-Bool.exists_bool]
     exact⟨sm,hs,rs,⟨p1,p2,p3⟩,rfl, .inl rfl, .inl rfl⟩
   ·rintro⟨sm,hs,rs⟩ ⟨p1,p2,p3⟩
    simp only at p1 p2 p3
    simp
    refine⟨fun _=>⟨{ c with heads:=hs,rels:=rs },_,rfl,rfl,?_,⟨hs,rs,rfl,by omega,by omega,p3⟩⟩,fun _=>⟨{ c with heads:=[],rels:=[] },_,rfl,rfl,?_,⟨[], [],rfl,by simp,by simp,by simp⟩⟩⟩
    ·simp[qmR]
     exact⟨qmV iw rfl p1.symm,qmV au rfl p2.symm⟩
    ·simp[qmR]
end Go.Gv

namespace Go.Gv
open Cod (enc dec)
variable {S S0:Nat->Spc}
abbrev s_m_word:Spc:=aJ (a1 Int) (fun n=>0<=n/\n < 6) (enc (X:=B)) fun _ y=>y∈SL
theorem ZC:aq F5 Fl S (a1 Int) (fun n=>0<=n/\n < 6) (enc (X:=B)) fun _ y=>y∈SL:=by
 rintro n hn
 have hn:0<=n/\n < 6:=hn
 simp[F5,Fl]
 refine⟨hn.1,hn.2,?_⟩
 have:n=0\/n=1\/n=2\/n=3\/n=4\/n=5:=by omega
 rcases this with rfl|rfl|rfl|rfl|rfl|rfl <;> simp[SL]
abbrev s_m_tag:Spc:=aJ (a1 Int) (fun n=>0<=n/\n < 2) (enc (X:=B)) fun _ y=>y∈qdu
theorem qed:aq KE Jd S (a1 Int) (fun n=>0<=n/\n < 2) (enc (X:=B)) fun _ y=>y∈qdu:=by
 rintro n hn
 have hn:0<=n/\n < 2:=hn
 simp[KE,Jd]
 refine⟨hn.1,hn.2,?_⟩
 have:n=0\/n=1:=by omega
 rcases this with rfl|rfl <;> simp[qdu]
abbrev s_m_features:Spc:=aJ (a1 Int) (fun n=>0<=n/\n < 4) (enc (X:=B)) fun _ y=>y∈Nm
theorem NE:aq vK uZ S (a1 Int) (fun n=>0<=n/\n < 4) (enc (X:=B)) fun _ y=>y∈Nm:=by
 rintro n hn
 have hn:0<=n/\n < 4:=hn
 simp[vK,uZ]
 refine⟨hn.1,hn.2,?_⟩
 have:n=0\/n=1\/n=2\/n=3:=by omega
 rcases this with rfl|rfl|rfl|rfl <;> simp[Nm]
abbrev s_m_Type:Spc:=aJ (a1 Int) bH (enc (X:=B)) qA
theorem ZD(h1:S uC=s_m_Mod):aq wz wh S (a1 Int) bH (enc (X:=B)) qA:=by
 rintro n -
 simp[wz,wh,h1]
 have h3:=JN n 3 (by omega)
 refine⟨h3.1,h3.2,?_⟩
 have:FL n 3=0\/FL n 3=1\/FL n 3=2:=by omega
 rcases this with h|h|h <;> simp[h]
abbrev s_m_Attributes:Spc:=aJ a0 bH (enc (X:=List Attr)) (fun _ l=>qhD l)
theorem It:aq rL rh S a0 bH (enc (X:=List Attr)) (fun _ l=>qhD l):=by
 rintro x -
 simp[rL,rh]
 exact cm (Y:=List Attr) [⟨⟨#[119,111,114,100]⟩,false⟩,⟨⟨#[116,97,103]⟩,false⟩,⟨⟨#[102,101,97,116]⟩,true⟩] (by simp) rfl
end Go.Gv

namespace Go.Gv
open Cod (enc dec)
variable {S S0:Nat->Spc}
abbrev s_m_nodes:Spc:=qqS qo8 qfg Bf Pt
abbrev s_m_heads:Spc:=qqS qfg qmR Bf WY
theorem qcc{H:ab}{id el n:Nat}{v:Value}{d d':D}(h:H id=some (.row v el n [d]))(hd:FrzTo H d d')(hk:d'.kn=true/\d'.cells.length=n):FrzTo H (.own id v) (.list n [d']):=by
 refine .row h rfl (fun e he=>?_) (fun k c c' h1 h2=>?_)
 ·simp at he;subst he;exact hk
 ·cases k with
  | zero=>simp at h1 h2;subst h1;subst h2;exact hd
  | succ k=>simp at h1
def qbW(l:List Int):List D:=l.map enc
theorem qmI(a b c d e f g h:Int):D.list 1 [.v (.int .i64 a), .v (.int .i64 b), .v (.int .i64 c), .v (.int .i64 d), .v (.int .i64 e), .v (.int .i64 f), .v (.int .i64 g), .v (.int .i64 h)]= .list 1 (qbW [a,b,c,d,e,f,g,h]):=id rfl
theorem qbV(l:List Int):(qbW l).length=l.length:=by simp[qbW]
theorem qfE(l:List Int)(i:Nat)(d:D):((qbW l)[i]? =some d)=∃s,l[i]? =some s/\ .v (.int .i64 s)=d:=by
 simp[qbW]
theorem ZT{l:List (List B)}{r:List B}(h:∀x∈l,EN x)(hr:EN r):∀x∈l++ [r],EN x:=fun x hx=>by
 rcases qwU.1 hx with hx|hx
 ·exact h x hx
 ·rw[qyr]at hx;rw[hx];exact hr
theorem NG(h1:S bX=s_m_Next)(h2:S tv=s_m_Attributes)(h3:S Kh=s_m_word)(h4:S OZ=s_m_tag)(h5:S xS=s_m_features)
 (h6:S qL=s_m_Type) (h7:S nG=s_r06_SortRegions) (h8:S ts=s_m_nodes) (h9:S tt=s_m_heads):
 aq mf lJ S (aT (a2 B Int)) (fun x=>1<=x.2.2/\x.2.2<=1000) (enc (X:=Corpus)) (fun x c=>SN c/\Mc c/\(c.toks.length:Int)<=x.2.2):=by
 rintro⟨L,name,most⟩ hm
 have hm:1<=most/\most<=1000:=hm
 simp[mf,lJ,h1,h2]
 refine fun b6=>⟨by omega,fun y hy=>⟨by simp only[InR];omega,trivial,fun at_ hat v26 b8=>?_⟩⟩
 have hal:at_.length=3:=by rw[show at_=ge from hat];rfl
 obtain⟨n,hn0,hn⟩:∃n:Nat,1+y=(n:Int)/\1<=n/\n<=1000:=⟨(1+y).toNat,by omega,by omega⟩
 rw[hn0]
 refine gp (X:=ua) [0,6,7,8] [6] [26] [] (fun t=>t.b=0/\t.e=n) (fun _=>[]) (fun t=>[(8, .box b8 [enc at_, .v (.slice none 0 0),enc [t], .v (.slice none 0 0), .v (.slice none 0 0), .v (.slice none 0 0), .v (.slice none 0 0)])]) [8] (fun _=>rfl) (by decide) ?_ ?_
 ·simp[h1,Qk,kX,qi]
  refine fun z _ _=>⟨fun _ u hu0 hu1=>⟨hu0,hu1,fun s _=>⟨⟨name,0,n, [⟨⟨#[121,101,97,114]⟩,s⟩]⟩,⟨rfl,rfl⟩, .inl (qcc (el:=AX) (by simp[GV]) (.same _) ⟨rfl,rfl⟩)⟩⟩,fun _=>⟨⟨name,0,n, []⟩,⟨rfl,rfl⟩, .inl (qcc (el:=AX) (by simp[GV];rfl) ?_ ⟨rfl,rfl⟩)⟩⟩
  rw[da,da,da,da]
  exact⟨.same _, .same _, .same _, .nil _, .same _⟩
 ·rintro t ⟨ht1,ht2⟩
  refine gp (X:=List (List B)) [0,6,7,8] [6] [66] [] (fun l=>l.length=n/\∀r∈l,EN r) (fun _=>[]) (fun l=>[(8, .box b8 [enc at_,enc l,enc [t], .v (.slice none 0 0), .v (.slice none 0 0), .v (.slice none 0 0), .v (.slice none 0 0)])]) [8] (fun _=>rfl) (by decide) ?_ ?_
  ·simp[h1]
   refine mj (X:=Int×Value×List (List B)) [0,6,7,8] [6] [] [] [] [] (fun x=>0<=x.1/\x.1<=n/\(x.2.2.length:Int)=x.1/\∀r∈x.2.2,EN r) (fun x=>[(9,enc x.1)]) (fun x=>[(8, .box b8 [enc at_, .own 66 x.2.1,enc [t], .v (.slice none 0 0), .v (.slice none 0 0), .v (.slice none 0 0), .v (.slice none 0 0)]),(66, .row x.2.1 ms 1 (x.2.2.map enc))]) (fun x=>n -x.1.toNat) (0, .slice none 0 0, []) [8,66] (fun _=>rfl) (by decide) (by decide) ?_ ?_ ?_ ?_
   ·simp
   ·simp
   ·simp[isNilRow]
    exact .nilown 66
   ·rintro⟨i,v,l⟩ ⟨q1,q2,q3,q4⟩
    simp only at q1 q2 q3 q4
    simp[h1,h3,h4,h5,qmI,qbV,qfE]
    refine⟨fun hi y hy0 hy1=>?_,fun hi=>⟨l,⟨by omega,q4⟩, .inl (gh ms (by simp[GV]))⟩⟩
    have a1:y.tmod 8=y % 8:=Int.tmod_eq_emod_of_nonneg hy0
    have a2:y.tdiv 8=y/8:=Int.tdiv_eq_ediv_of_nonneg hy0
    have a3:(y/8).tmod 2=(y/8) % 2:=Int.tmod_eq_emod_of_nonneg (by omega)
    have a4:y.tdiv 12=y/12:=Int.tdiv_eq_ediv_of_nonneg hy0
    rw[a1,a2,a3,a4]
    refine⟨by omega,by omega,fun s hs=>⟨?_,fun w1 hw1=>⟨by simp only[InR];omega,by omega,fun w2 hw2=>⟨by simp only[InR];omega,by omega,fun w3 hw3=>⟨by omega,by omega,fun v2=>⟨by simp only[InR];omega,i+1,v2,l++ [[w1,w2,w3]],⟨by omega,by omega,by simp;omega,ZT q4 ⟨w1,w2,w3,hw1,hw2,hw3,rfl⟩⟩,⟨rfl, .inl (.inl rfl), .inl (.inl (by simp))⟩,by omega⟩⟩⟩⟩⟩⟩
    have:=qwS hs
    simp at this
    omega
  ·rintro toks ⟨htk,hto⟩
   refine gp (X:=List Region) [0,6,7,8] [6,8] [165] [] (fun l=>l.length<=8/\∀r∈l,0<=r.b/\r.b<=n/\0<=r.e/\r.e<=n) (fun l=>[(11,enc l)]) (fun _=>[]) [] (fun _=>rfl) (by decide) ?_ ?_
   ·simp[h1]
    intro k hk0 hk1
    refine mj (X:=Int×Value×List Region) [0,6,7,8] [6,8] [] [] [] [] (fun x=>0<=x.1/\x.1+x.2.2.length<=4/\∀r∈x.2.2,0<=r.b/\r.b<=n/\0<=r.e/\r.e<=n) (fun x=>[(11, .own 165 x.2.1),(12,enc x.1)]) (fun x=>[(165, .row x.2.1 mr 4 (x.2.2.map enc))]) (fun x=>x.1.toNat) (k, .slice none 0 0, []) [165] (fun _=>rfl) (by decide) (by decide) ?_ ?_ ?_ ?_
    ·simp;omega
    ·simp
     exact .nilown 165
    ·simp[isNilRow]
    ·rintro⟨k,v,l⟩ ⟨q1,q2,q3⟩
     simp only at q1 q2 q3
     simp[h1,h6]
     refine⟨fun hk=>⟨by omega,fun u hu z _ _=>⟨trivial,fun ty=>⟨by simp only[InR];omega,by simp only[InR];omega,by omega,fun w hw=>⟨by simp only[InR];omega,fun b14=>?_⟩⟩⟩⟩,fun hk=>⟨l,⟨by omega,q3⟩,gh mr (by simp[GV])⟩⟩
     have hr:0<=u/\u<=n/\0<=u+1+w/\u+1+w<=n:=by omega
     generalize u+1+w=e' at*
     refine gp (X:=List Pair) [0,6,7,8,11,12,14] [6,8,165] [] [] (fun _=>True) (fun _=>[]) (fun kv=>[(14, .box b14 [.v (.string ty), .v (.int .i64 u), .v (.int .i64 e'),enc kv])]) [14] (fun _=>rfl) (by decide) ?_ ?_
     ·simp[h1,Mj,kX,qi]
      exact fun _ _ _ _ q hq0 hq1=>⟨hq0,hq1,fun s _=>⟨[⟨⟨#[110]⟩,s⟩], .inl (.inl rfl)⟩⟩
     ·rintro kv -
      simp only[qjh,qfx]
      simp
      refine aS (X:=Bool) [0,6,7,8,11,12,14] [6,8,14,165] (fun _=>True) (fun x=>[(15,enc x)]) (fun _=>[]) ?_ ?_
      ·simp[-Bool.exists_bool]
       intro _
       refine ai (X:=Bool) [0,6,7,8,11,12,14,101] [6,8,14,165] l.length (fun _ _=>True) (fun x=>[(15,enc x)]) (fun _=>[]) false (by simp) (by simp) (by omega) (by simp) (by simp) trivial (by simp) (by simp) ?_ ?_
       ·rintro j cr hj -
        obtain⟨x,hx⟩:=cj hj
        obtain⟨_,hgx⟩:=qwP.1 hx
        simp[hj,hx,hgx, -Bool.exists_bool]
        exact fun _ _ _ _=>⟨fun _ _ _=>⟨_,(Bool.not_not _).symm⟩,fun _ _=>⟨_,(Bool.not_not _).symm⟩⟩
       ·rintro cr -
        simp[-Bool.exists_bool]
      ·rintro cr -
       simp[-Bool.exists_bool]
       refine⟨fun _=>⟨by omega,by omega,fun v2=>⟨by simp only[InR];omega,k -1,v2,l++ [⟨ty,u,e',kv⟩],⟨by omega,by simp;omega,fun r hrr=>?_⟩,⟨⟨.same _,rfl⟩, .inl (.inl (by simp))⟩,by omega⟩⟩,fun _=>⟨by simp only[InR];omega,k -1,v,l,⟨by omega,by omega,q3⟩,⟨⟨.same _,rfl⟩, .inl (.inl rfl)⟩,by omega⟩⟩
       rcases qwU.1 hrr with hrr|hrr
       ·exact q3 r hrr
       ·simp at hrr;subst hrr;exact hr
   ·rintro rg ⟨hr1,hr2⟩
    simp[h7,h8]
    refine⟨by simp only[U6];omega,fun rs ⟨hs1,hs2⟩=>⟨⟨at_,toks, [t],rs, [], [], []⟩,by simp[qo8],by simp only[Bf];omega,fun c hc=>?_⟩⟩
    obtain⟨ns,rfl,hns,hnd⟩:=hc
    simp only at hnd
    simp[qfg]
    refine gp (X:=List Int×List B) [6,8] [6] [] [] (fun x=>x.1.length<=n/\x.2.length<=n/\∀h∈x.1,h<=n) (fun _=>[]) (fun x=>[(8, .box b8 [enc at_,enc toks,enc [t],enc rs,enc ns,enc x.1,enc x.2])]) [8] (fun _=>rfl) (by decide) ?_ ?_
    ·simp[h1,h9]
     refine fun z _ _=>⟨fun _=>⟨⟨at_,toks, [t],rs,ns, [], []⟩,by simp[qfg],by simp only[Bf];omega,fun c hc=>?_⟩,fun _=>⟨[], [],⟨by simp,by simp,by simp⟩, .inl ⟨rfl,rfl⟩⟩⟩
     obtain⟨hs,rl,rfl,g1,g2,g3⟩:=hc
     simp only at g1 g2 g3
     simp[qmR]
     exact⟨hs,rl,⟨by omega,by omega,fun h hh=>by have:=g3 h hh;omega⟩, .inl (.inl ⟨rfl,rfl⟩)⟩
    ·rintro⟨hs,rl⟩ ⟨p1,p2,p3⟩
     simp only at p1 p2 p3
     simp
     refine cm ⟨at_,toks, [t],rs,ns,hs,rl⟩ (.same _) ⟨?_,⟨hat,hto⟩,by show(toks.length:Int)<=most;omega⟩
     refine⟨⟨ht1,by omega,by show t.e=(toks.length:Int);omega⟩,by simp,by simp only;omega,by simp,by simp only;omega,by simp only;omega,by simp only;omega,by simp only;omega,by simp only;omega,fun r hr=>?_,fun m hm=>?_,hnd.2,fun h hh=>?_⟩
     ·have:=hr2 r (hs2 r hr)
      simp only
      omega
     ·have:=hnd.1 m hm
      simp only
      omega
     ·have:=p3 h hh
      simp only
      omega
end Go.Gv

namespace Go.Gv
open Go.Proofs
theorem NV:Tri Tryz.prog uC s_m_Mod.pt:=
 ae (ag ac) qbg (fun _=>qwO rfl) (qef)
theorem cS:Tri Tryz.prog bX s_m_Next.pt:=ZS (S:=HU [(uC,s_m_Mod)]) (ag (aa NV ac)) rfl JF (by decide)
theorem qeE:Tri Tryz.prog O0 s_m_New.pt:=qeB (Tz (ag ac) qbf (by decide) qee)
theorem Gx:Tri Tryz.prog uA s_r04_First.pt:=
 ae (ag ac) Ox (fun _=>qwO rfl) (PS)
theorem TH:Tri Tryz.prog CU s_r04_Next.pt:=
 ae (ag (aa Gx ac)) Q6 (fun _=>qwO rfl) (Tg rfl)
theorem eZ:Tri Tryz.prog dc s_r04_ValidName.pt:=
 ae (ag (aa Gx (aa TH ac))) Fs (fun _=>qwO rfl) (G4 rfl rfl)
theorem Qi:Tri Tryz.prog Au s_r01_Units.pt:=
 ae (ag ac) Oz (fun _=>qwO rfl) (PV)
theorem Qh:Tri Tryz.prog At s_r01_Valid.pt:=
 ae (ag (aa Qi ac)) Oy (fun _=>qwO rfl) (PU rfl)
theorem oR:Tri Tryz.prog fU s_r04_ValidValue.pt:=
 ae (ag (aa Qh ac)) D7 (fun _=>qwO rfl) (E4 rfl)
theorem Qg:Tri Tryz.prog As s_r05_Parse.pt:=
 ae (ag (aa oR ac)) Ow (fun _=>qwO rfl) (PR rfl)
theorem TF:Tri Tryz.prog CQ s_r06_sign.pt:=
 ae (ag ac) Q4 (fun _=>qwO rfl) (Te)
theorem LB:Tri Tryz.prog vq s_r06_compare.pt:=
 ae (ag ac) Jy (fun _=>qwO rfl) (Lg)
theorem qB:Tri Tryz.prog fp s_r06_CompareRegions.pt:=
 ae (ag (aa TF (aa LB ac))) yS (fun _=>qwO rfl) (zh rfl rfl)
theorem Fe:Tri Tryz.prog pF s_r06_Attributes.pt:=
 ae (ag (aa eZ ac)) D6 (fun _=>qwO rfl) (E1 rfl)
theorem Qc:Tri Tryz.prog Ap s_r06_Value.pt:=
 ae (ag (aa Qg (aa oR ac))) Ot (fun _=>qwO rfl) (PO rfl rfl)
theorem Gw:Tri Tryz.prog uz s_r06_pairs.pt:=
 ae (ag (aa eZ (aa oR ac))) Oo (fun _=>qwO rfl) (PM rfl rfl)
theorem DF:Tri Tryz.prog sa s_r06_within.pt:=
 ae (ag ac) LF (fun _=>qwO rfl) (Nu)
theorem TG:Tri Tryz.prog CT s_r06_bare.pt:=
 ae (ag ac) Q5 (fun _=>qwO rfl) (Tf)
theorem NS:Tri Tryz.prog xN s_r06_TextAt.pt:=
 ae (ag ac) LI (fun _=>qwO rfl) (Nx)
theorem IL:Tri Tryz.prog tq s_r06_FindText.pt:=
 ae (ag ac) Ht (fun _=>qwO rfl) (Im)
theorem zw:Tri Tryz.prog jA s_r06_sameAttributes.pt:=
 ae (ag ac) yR (fun _=>qwO rfl) (zg)
theorem NR:Tri Tryz.prog xM s_r06_cyclic.pt:=
 ae (ag ac) LH (fun _=>qwO rfl) (Nw)
theorem NQ:Tri Tryz.prog xL s_r06_tokens.pt:=
 ae (ag (aa Qc ac)) LG (fun _=>qwO rfl) (Nv rfl)
theorem Qa:Tri Tryz.prog An s_r06_texts.pt:=
 ae (ag (aa eZ (aa Gw ac))) On (fun _=>qwO rfl) (PL rfl rfl)
theorem LA:Tri Tryz.prog vp s_r06_regions.pt:=
 ae (ag (aa eZ (aa Gw (aa DF (aa qB ac))))) Jw (fun _=>qwO rfl) (Lf rfl rfl rfl rfl)
theorem Qf:Tri Tryz.prog Ar s_r06_Nodes.pt:=
 ae (ag (aa eZ (aa DF ac))) Ov (fun _=>qwO rfl) (PQ rfl rfl)
theorem Qb:Tri Tryz.prog Ao s_r06_heads.pt:=
 ae (ag (aa eZ (aa TG (aa NS (aa NR ac))))) Oq (fun _=>qwO rfl) (PN rfl rfl rfl rfl)
theorem IK:Tri Tryz.prog tn s_r06_Validate.pt:=
 ae (ag (aa Fe (aa NQ (aa Qa (aa LA (aa Qf (aa Qb ac))))))) Hs (fun _=>qwO rfl) (Il rfl rfl rfl rfl rfl rfl)
theorem Qe:Tri Tryz.prog Aq s_r06_Valid.pt:=
 ae (ag (aa IK ac)) Ou (fun _=>qwO rfl) (PP rfl)
theorem DG:Tri Tryz.prog nG s_r06_SortRegions.pt:=
 ae (ag (aa qB ac)) Cl (fun _=>qwO rfl) (De rfl)
theorem IJ:Tri Tryz.prog tm s_r06_allHeads.pt:=
 ae (ag ac) Hq (fun _=>qwO rfl) (Ik)
theorem NT:Tri Tryz.prog xO s_r06_Concat.pt:=
 ae (ag (aa Qe (aa zw (aa IL (aa IJ ac))))) LJ (fun _=>qwO rfl) (Ny rfl rfl rfl rfl)
theorem ZY:Tri Tryz.prog Kh s_m_word.pt:=
 ae (ag ac) Yc (fun _=>qwO rfl) (ZC)
theorem qeD:Tri Tryz.prog OZ s_m_tag.pt:=
 ae (ag ac) qbe (fun _=>qwO rfl) (qed)
theorem NU:Tri Tryz.prog xS s_m_features.pt:=
 ae (ag ac) LS (fun _=>qwO rfl) (NE)
theorem ZZ:Tri Tryz.prog qL s_m_Type.pt:=
 ae (ag (aa NV ac)) MI (fun _=>qwO rfl) (ZD rfl)
theorem IP:Tri Tryz.prog tv s_m_Attributes.pt:=
 ae (ag ac) HB (fun _=>qwO rfl) (It)
theorem IM:Tri Tryz.prog ts s_m_nodes.pt:=
 Gt (ag (aa cS ac)) Hx (by decide) (Xs rfl)
theorem IN:Tri Tryz.prog tt s_m_heads.pt:=
 Gt (ag (aa cS ac)) Hz (by decide) (Xt rfl)
theorem DH:Tri Tryz.prog nK s_m_Document.pt:=
 ae (ag (aa cS (aa IP (aa ZY (aa qeD (aa NU (aa ZZ (aa DG (aa IM (aa IN ac)))))))))) Cq (fun _=>qwO rfl) (NG rfl rfl rfl rfl rfl rfl rfl rfl rfl)
theorem Hm:Tri Tryz.prog ro s_m_Corpus.pt:=
 ae (ag (aa cS (aa DH (aa NT ac)))) FD (fun _=>qwO rfl) (Tk rfl rfl rfl)
end Go.Gv
