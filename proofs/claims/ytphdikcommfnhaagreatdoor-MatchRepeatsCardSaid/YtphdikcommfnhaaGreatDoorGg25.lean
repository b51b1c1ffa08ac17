/- A part of the framework and of the walks: W15 T20 W16 T21 W18 W9 W19 Asm. -/
import Derived.Test.YtphdikcommfnhaaGreatDoorGg24
import Derived.Test.YtphdikcommfnhaaGreatDoorGg20
import Derived.Test.YtphdikcommfnhaaGreatDoorGg22
import Derived.Test.YtphdikcommfnhaaGreatDoorGg21
set_option linter.unusedSimpArgs false
set_option linter.unusedVariables false
set_option linter.unusedSectionVars false
set_option maxRecDepth 100000

namespace Go.Gv
open Cod (enc dec)
variable {S S0:Nat->Spc}
theorem qbI:qaW II Hj S:=by
 intro l
 simp[II,Hj, -List.map_take,xW,Cg]
 omega
def ql4(c:Corpus):List D:=[enc c.attrs,enc c.toks,enc c.texts,enc c.regs, .v (.slice none 0 0), .v (.slice none 0 0), .v (.slice none 0 0)]
def qcz(c:Corpus):List D:=[enc c.attrs,enc c.toks,enc c.texts,enc c.regs,enc c.nodes, .v (.slice none 0 0), .v (.slice none 0 0)]
def qjQ(c:Corpus):List D:=[enc c.attrs,enc c.toks,enc c.texts,enc c.regs,enc c.nodes,enc c.heads,enc c.rels]
end Go.Gv

namespace Go.Gv
section
variable {S:Nat->Spc}{σ:Sg}{H:ab}{K:Ex->Sg->ab->Prop}
theorem qO{X:Type}(ks hk gv0 gv:List Nat)(rn0 rn:List (Nat×Nat))(P:X->Prop)(sl:X->List (Nat×D))(hp:X->List (Nat×Res))(m:X->Nat)(x0:X)(ids:List Nat)(hids:∀x,(hp x).map (·.1)=ids)
 (hi0:qin rn0 (ids++hk) gv0/\∀i∈hk,i∉ids->Rq rn0 i=i) (hi:qin rn (ids++hk) gv/\∀i∈hk,i∉ids->Rq rn i=i) {k:Nat} {b:CC} (h0:P x0)
 (hs:zB (FT gv0 H) (sl x0) σ) (hh:wT (FT gv0 H) rn0 (hp x0) H)
 (hr:∀x,P x->vc S b (Xb P (fun y=>qbl σ H ks hk gv rn (sl y) (hp y)) m x K) (sF (sl x) (iJ ks σ)) (fE (hp x) (jy hk H))):vc S (.loop k b) K σ H:=by
 rw[M2]
 refine⟨⟨X,P,fun x=>sF (sl x) (iJ ks σ),fun x=>fE (hp x) (jy hk H),m⟩,⟨x0,h0,Dx (by rw[hids x0];exact hi0.1) (by rw[hids x0];exact hi0.2) hs (fun _ _=>rfl) hh (fun _ _=>rfl)⟩,fun x hx=>vp b _ _ (fun e σ' H' h=>?_) (hr x hx)⟩
 cases e with
 | norm=>
   obtain⟨y,h1,h2,h3⟩:=h
   exact⟨y,h1,Dx (by rw[hids y];exact hi.1) (by rw[hids y];exact hi.2) h2.1 h2.2.1 h2.2.2.1 h2.2.2.2,h3⟩
 | ex i=>exact h
 | ret=>exact h
end
end Go.Gv

namespace Go.Gv
open Cod (enc dec)
variable {S S0:Nat->Spc}
def Oa(l:List B):List D:=l.map enc
theorem N9(a b:B):D.list 1 [.v (.string a), .v (.string b)]= .list 1 (Oa [a,b]):=id rfl
theorem XB(a b c:B):D.list 1 [.v (.string a), .v (.string b), .v (.string c)]= .list 1 (Oa [a,b,c]):=id rfl
theorem pq(l:List B):(Oa l).length=l.length:=by simp[Oa]
theorem sS(l:List B)(i:Nat)(d:D):((Oa l)[i]? =some d)=∃s,l[i]? =some s/\ .v (.string s)=d:=by
 simp[Oa]
def qbf(n:Nat)(ns:List vk):Prop:=(∀x∈ns,0<=x.b/\x.b<=n/\0<=x.e/\x.e<=n)/\∀ (j:Nat) (y:vk),ns[j]? =some y->y.par < j
def Nt(c c':Corpus):Prop:=∃ns,c'={ c with nodes:=ns } /\ns.length<=6/\qbf c.toks.length ns
def zR(c:Corpus):Prop:=c.toks.length<=4096
theorem UI(h1:S dq=s_m_Next):Nq qr pS S ql4 qcz zR Nt:=by
 intro L b c hc
 have hc:c.toks.length<=4096:=hc
 simp[qr,pS,h1,ql4]
 intro _ k hk0 hk1
 refine qO (X:=Int×Int×Value×List vk) [0,1,4] [] [] [] [] [] (fun x=>0<=x.1/\x.1<=c.toks.length/\0<=x.2.1/\2*x.2.1+x.2.2.2.length<=6/\qbf c.toks.length x.2.2.2) (fun x=>[(5,enc x.1),(6,enc x.2.1)]) (fun x=>[(1, .box b [enc c.attrs,enc c.toks,enc c.texts,enc c.regs, .own 61 x.2.2.1, .v (.slice none 0 0), .v (.slice none 0 0)]),(61, .row x.2.2.1 sR 4 (x.2.2.2.map enc))]) (fun x=>x.2.1.toNat) (0,k, .slice none 0 0, []) [1,61] (fun _=>rfl) (by decide) (by decide) ?_ ?_ ?_ ?_
 ·simp[qbf];omega
 ·simp
 ·simp[isNilRow]
  exact .nilown 61
 ·rintro⟨at_,k,v,l⟩ ⟨q1,q2,q3,q4,q5⟩
  simp only at q1 q2 q3 q4 q5
  simp[h1,N9,pq,sS]
  have fin:qeU qcz b (Nt c) (D.tup []) (ah (ah (ah (fun x=>none) 96 none) 61 (some (Res.row v sR 4 (List.map enc l)))) 1 (some (Res.box b [D.list 2 (List.map enc c.attrs),D.list 1 (List.map enc c.toks),D.list 4 (List.map enc c.texts),D.list 4 (List.map enc c.regs),D.own 61 v,D.v (Value.slice none 0 0),D.v (Value.slice none 0 0)]))):=by
   refine⟨{ c with nodes:=l },_,rfl,rfl,?_,⟨l,rfl,by omega,q5⟩⟩
   simp[qcz]
   exact gP sR rfl
  refine⟨fun hk=>⟨fun hat y hy0 hy1=>⟨by simp only[InR];omega,fun _=>fin,fun hb=>⟨by simp only[InR];omega,by simp only[InR];omega,by omega,fun y1 hy1'=>⟨by simp only[InR];omega,fun _ z hz0 hz1=>⟨hz0,hz1,fun lb hlb=>⟨by omega,by omega,fun v1=>?_⟩⟩⟩⟩⟩,fun _=>fin⟩,fun _=>fin⟩
  have hb0:0<=at_+y:=by omega
  generalize at_+y=b' at*
  have he:b'+1+y1<=c.toks.length/\0<=y1:=by omega
  generalize hee:b'+1+y1=e' at*
  have ok1:qbf c.toks.length (l++ [⟨lb,b',e', -1⟩]):=by
   refine⟨fun x hx=>?_,fun j x hx=>?_⟩
   ·rcases qtK.1 hx with hx|hx
    ·exact q5.1 x hx
    ·simp at hx;subst hx;simp only;omega
   ·by_cases e:j < l.length
    ·rw[qt0 e]at hx;exact q5.2 j x hx
    ·rw[qtQ (by omega)]at hx
     have hx:=qtJ hx
     simp at hx;subst hx;simp only;omega
  refine ba (X:=Value×List vk) [0,1,4,6,8] [] (fun x=>x.2.length<=l.length+2/\qbf c.toks.length x.2) (fun _=>[]) (fun x=>[(1, .box b [enc c.attrs,enc c.toks,enc c.texts,enc c.regs, .own 61 x.1, .v (.slice none 0 0), .v (.slice none 0 0)]),(61, .row x.1 sR 4 (x.2.map enc))]) ?_ ?_
  ·simp[h1,N9,pq,sS]
   refine fun u hu0 hu1=>⟨fun _=>⟨by simp only[InR];omega,by omega,fun y2 hy2=>⟨by simp only[InR];omega,fun z2 hz20 hz21=>⟨hz20,hz21,fun lb2 _=>⟨by simp only[InR];omega,by simp only[InR];omega,by omega,fun y3 hy3=>⟨by simp only[InR];omega,by omega,by omega,fun v2=>⟨v2,l++ [⟨lb,b',e', -1⟩] ++ [⟨lb2,b'+y2,b'+y2+1+y3,l.length⟩],⟨by simp,?_⟩, .inl rfl, .inl ⟨rfl,by simp⟩⟩⟩⟩⟩⟩⟩,fun _=>⟨v1,l++ [⟨lb,b',e', -1⟩],⟨by simp,ok1⟩, .inl rfl, .inl ⟨rfl,by simp⟩⟩⟩
   refine⟨fun x hx=>?_,fun j x hx=>?_⟩
   ·rcases qtK.1 hx with hx|hx
    ·exact ok1.1 x hx
    ·simp at hx;subst hx;simp only;omega
   ·by_cases e:j < (l++ [(⟨lb,b',e', -1⟩:vk)]).length
    ·rw[qt0 e]at hx;exact ok1.2 j x hx
    ·rw[qtQ (by omega)]at hx
     have hx:=qtJ hx
     simp at hx;subst hx;simp at e;simp only;omega
  ·rintro⟨v2,l2⟩ ⟨r1,r2⟩
   simp only at r1 r2
   simp
   exact⟨by simp only[InR];omega,e',k -1,v2,l2,⟨by omega,by omega,by omega,by omega,r2⟩,⟨⟨rfl,rfl⟩, .inl (.inl rfl), .inl (.inl rfl)⟩,by omega⟩
end Go.Gv

namespace Go.Gv
theorem WZ{σ:Sg}{H:ab}(t id:Nat)(x:Value)(el n:Nat)(es:List D)(h1:σ t= .own id x)(h2:H id=some (.row x el n es)):Wk σ H (upd σ t (.sub id x n 0 es.length)) H:=by
 intro E a w ⟨hd,hN,tp,hw,hr⟩
 refine⟨hd,hN,tp,hw,fun s=>?_⟩
 unfold upd
 split
 ·rename_i e
  subst e
  have h3:=hr s
  rw[h1]at h3
  have e1:a.tmps.getD s undef=x:=by
   generalize a.tmps.getD s undef=y at h3
   cases h3;rfl
  obtain⟨xs,⟨_,h4⟩,_⟩:=hw.sat.ok id _ h2
  rw[e1]
  rcases h4 with⟨rfl,h5⟩|⟨g,cap,cur,rfl,_,_,h6,h7,_⟩
  ·rw[h5]
   exact .subnil id n
  ·exact .sub id g es.length cap n 0 es.length _ (qub _) (qtP _) h6 h7 (fun _=>by simp)
 ·exact hr s
open Cod (enc dec) in
theorem qjW{X:Type}[Cod X]{H:ab}{id n hi:Nat}{v:Value}{l:List X}(el:Nat)(h:H id=some (.row v el n (l.map enc)))(hh:hi=l.length)(hn:n=Cod.wd X:=by rfl):FrzTo H (.sub id v n 0 hi) (.list n (l.map enc)):=by
 subst hh
 have e:((l.map (enc (X:=X))).take l.length).drop 0=l.map enc:=by
  rw[List.drop_zero,qvk (by simp)]
 refine .sub h (by rw[e]) (fun d hd=>?_) (fun k c c' h1 h2=>?_)
 ·obtain⟨x,_,rfl⟩:=qtU.1 hd
  exact⟨Cod.kn x,(Cod.wid x).trans hn.symm⟩
 ·rw[e,h2]at h1
  cases h1
  exact .same _
end Go.Gv

namespace Go.Gv
open Cod (enc dec)
variable {S S0:Nat->Spc}
def qdZ(n:Nat)(hs:List Int)(rs:List B):Prop:=hs.length=n/\rs.length=n/\∀h∈hs,h<=n
def Ur(c c':Corpus):Prop:=∃hs rs,c'={ c with heads:=hs,rels:=rs } /\hs.length<=c.toks.length/\rs.length<=c.toks.length/\∀h∈hs,h<=c.toks.length
theorem UJ(h1:S dq=s_m_Next):Nq qt pU S qcz qjQ zR Ur:=by
 intro L b c hc
 have hc:c.toks.length<=4096:=hc
 simp[qt,pU,h1,qcz]
 intro _
 refine qO (X:=Int×List Int) [0,1,4] [1] [] [27] [] [] (fun x=>0<=x.1/\x.1<=c.toks.length/\(x.2.length:Int)=x.1/\∀y∈x.2,0<=y/\y < c.toks.length) (fun x=>[(5,enc x.2),(6,enc x.1)]) (fun x=>[]) (fun x=>c.toks.length -x.1.toNat) (0, []) [] (fun _=>rfl) (by decide) (by decide) ?_ ?_ ?_ ?_
 ·simp
 ·simp
 ·simp
 ·rintro⟨i,l⟩ ⟨q1,q2,q3,q4⟩
  simp only at q1 q2 q3 q4
  simp[h1]
  refine⟨fun hi=>⟨by simp only[InR];omega,by omega,fun y hy=>?_⟩,fun hi=>?_⟩
  ·have e:List.take y.toNat (List.map enc l) ++D.v (.int .i64 i)::List.drop y.toNat (List.map enc l)=(l.take y.toNat++i::l.drop y.toNat).map enc:=by simp
   refine⟨by omega,by omega,by omega,by omega,by omega,by omega,by omega,by omega,by omega,by omega,fun v=>⟨by simp only[InR];omega,i+1,l.take y.toNat++i::l.drop y.toNat,⟨by omega,by omega,?_,fun z hz=>?_⟩,⟨?_,rfl⟩,by omega⟩⟩
   ·simp;omega
   ·rcases qtK.1 hz with hz|hz
    ·exact q4 z (qt3 hz)
    ·rcases qtM.1 hz with hz|hz
     ·omega
     ·exact q4 z (quA hz)
   ·rw[e]
    exact gP gE (by simp[FT])
  ·have hil:l.length=c.toks.length:=by omega
   refine⟨by omega,by omega,fun v8=>⟨by omega,by omega,fun v9=>?_⟩⟩
   refine ba (X:=Bool×List Int×List B) [1] [1] (fun x=>qdZ c.toks.length x.2.1 x.2.2) (fun x=>[(8, .sub 40 v8 1 0 c.toks.length),(9, .sub 42 v9 1 0 c.toks.length),(10,enc x.1)]) (fun x=>[(40, .row v8 gE 1 (x.2.1.map enc)),(42, .row v9 ay 1 (x.2.2.map enc))]) ?_ ?_
   ·simp[-Bool.exists_bool]
    intro _
    refine DI ((WZ 8 40 v8 gE 1 _ rfl rfl).trans (WZ 9 42 v9 ay 1 _ rfl rfl)) ?_
    simp only[qiD]
    refine ai (X:=Bool×List Int×List B) [0,1,5,8,9,43] [1] l.length (fun _ x=>qdZ c.toks.length x.2.1 x.2.2) (fun x=>[(10,enc x.1)]) (fun x=>[(40, .row v8 gE 1 (x.2.1.map enc)),(42, .row v9 ay 1 (x.2.2.map enc))]) (false,List.replicate c.toks.length 0,List.replicate c.toks.length ⟨#[]⟩) (by simp) (by simp) (by omega) (by simp) (by simp) (by simp[qdZ]) (by simp) (by simp) ?_ ?_
    ·rintro k ⟨sm,hs,rs⟩ hk ⟨p1,p2,p3⟩
     simp only at p1 p2 p3
     obtain⟨x,hx⟩:=dM hk
     obtain⟨_,hgx⟩:=qtG.1 hx
     have hxr:=q4 x (dO hx)
     simp[hk,hx,hgx, -Bool.exists_bool]
     refine⟨by omega,by omega,by omega,fun a ha=>?_⟩
     have e1:(List.map enc hs).set x.toNat (D.v (Value.int .i64 (-1)))=(hs.set x.toNat (-1)).map enc:=ia hs _ _
     rw[e1]
     have p1':(hs.set x.toNat (-1)).length=c.toks.length:=by simp[p1]
     have p3':∀h∈hs.set x.toNat (-1),h<=c.toks.length:=fun h hh=>by
      rcases quI hh with hh|hh
      ·exact p3 h hh
      ·omega
     generalize hs.set x.toNat (-1)=hs1 at p1' p3' ⊢
     clear p1 p3 ha e1
     refine ba (X:=List Int×List B) [0,1,5,8,9,10,12,43,44,45] [1] (fun x=>qdZ c.toks.length x.1 x.2) (fun _=>[]) (fun x=>[(40, .row v8 gE 1 (x.1.map enc)),(42, .row v9 ay 1 (x.2.map enc))]) ?_ ?_
     ·simp[h1,XB,pq,sS, -Bool.exists_bool]
      have hlx:∀ (y:Int),hs1.length=c.toks.length->∃z,hs1[x.toNat]? =some z:=fun _ _=>dM (by omega)
      refine⟨fun hk0 y _ _=>⟨fun _=>⟨by omega,fun y2 hy2=>⟨by omega,by omega,fun a ha y3 hy30 hy31=>⟨hy30,hy31,fun s _=>⟨by omega,by omega,by omega,fun z _=>⟨by omega,by omega,by omega,fun z2 _=>⟨hs1.set x.toNat a,rs.set x.toNat s,⟨by simp[p1'],by simp[p2],fun h hh=>?_⟩, .inl (ia hs1 _ _), .inl (ia rs _ _)⟩⟩⟩⟩⟩⟩,fun _=>⟨hs1,rs,⟨p1',p2,p3'⟩, .inl rfl, .inl rfl⟩⟩,fun _=>⟨hs1,rs,⟨p1',p2,p3'⟩, .inl rfl, .inl rfl⟩⟩
      rcases quI hh with hh|hh
      ·exact p3' h hh
      ·have:=q4 a (dO ha)
       omega
     ·rintro⟨hs2,rs2⟩ ⟨r1,r2,r3⟩
      simp only at r1 r2 r3
      simp[-Bool.exists_bool]
      refine⟨fun _=>⟨by omega,by omega,by omega,fun a _=>⟨fun _=>⟨by omega,by omega,by omega,fun a2 _=>⟨!decide (a2=⟨#[]⟩),hs2,rs2,⟨r1,r2,r3⟩,by simp, .inl rfl, .inl rfl⟩⟩,fun _=>⟨true,hs2,rs2,⟨r1,r2,r3⟩,by simp, .inl rfl, .inl rfl⟩⟩⟩,fun _=>⟨true,hs2,rs2,⟨r1,r2,r3⟩,by simp, .inl rfl, .inl rfl⟩⟩
    ·rintro⟨sm,hs,rs⟩ ⟨p1,p2,p3⟩
     simp only at p1 p2 p3
     simp[-Bool.exists_bool]
     exact⟨sm,hs,rs,⟨p1,p2,p3⟩,rfl, .inl rfl, .inl rfl⟩
   ·rintro⟨sm,hs,rs⟩ ⟨p1,p2,p3⟩
    simp only at p1 p2 p3
    simp
    refine⟨fun _=>⟨{ c with heads:=hs,rels:=rs },_,rfl,rfl,?_,⟨hs,rs,rfl,by omega,by omega,p3⟩⟩,fun _=>⟨{ c with heads:=[],rels:=[] },_,rfl,rfl,?_,⟨[], [],rfl,by simp,by simp,by simp⟩⟩⟩
    ·simp[qjQ]
     exact⟨qjW gE rfl p1.symm,qjW ay rfl p2.symm⟩
    ·simp[qjQ]
end Go.Gv

namespace Go.Gv
open Cod (enc dec)
variable {S S0:Nat->Spc}
abbrev s_m_word:Spc:=aS (a1 Int) (fun n=>0<=n/\n < 6) (enc (X:=B)) fun _ y=>y∈Qq
theorem Xe:aq EA DW S (a1 Int) (fun n=>0<=n/\n < 6) (enc (X:=B)) fun _ y=>y∈Qq:=by
 rintro n hn
 have hn:0<=n/\n < 6:=hn
 simp[EA,DW]
 refine⟨hn.1,hn.2,?_⟩
 have:n=0\/n=1\/n=2\/n=3\/n=4\/n=5:=by omega
 rcases this with rfl|rfl|rfl|rfl|rfl|rfl <;> simp[Qq]
abbrev s_m_tag:Spc:=aS (a1 Int) (fun n=>0<=n/\n < 2) (enc (X:=B)) fun _ y=>y∈qaY
theorem qbH:aq IH Hi S (a1 Int) (fun n=>0<=n/\n < 2) (enc (X:=B)) fun _ y=>y∈qaY:=by
 rintro n hn
 have hn:0<=n/\n < 2:=hn
 simp[IH,Hi]
 refine⟨hn.1,hn.2,?_⟩
 have:n=0\/n=1:=by omega
 rcases this with rfl|rfl <;> simp[qaY]
abbrev s_m_features:Spc:=aS (a1 Int) (fun n=>0<=n/\n < 4) (enc (X:=B)) fun _ y=>y∈Lo
theorem LE:aq uu tM S (a1 Int) (fun n=>0<=n/\n < 4) (enc (X:=B)) fun _ y=>y∈Lo:=by
 rintro n hn
 have hn:0<=n/\n < 4:=hn
 simp[uu,tM]
 refine⟨hn.1,hn.2,?_⟩
 have:n=0\/n=1\/n=2\/n=3:=by omega
 rcases this with rfl|rfl|rfl|rfl <;> simp[Lo]
abbrev s_m_Type:Spc:=aS (a1 Int) bD (enc (X:=B)) pk
theorem Xf(h1:S ti=s_m_Mod):aq uZ uN S (a1 Int) bD (enc (X:=B)) pk:=by
 rintro n -
 simp[uZ,uN,h1]
 have h3:=HR n 3 (by omega)
 refine⟨h3.1,h3.2,?_⟩
 have:Eg n 3=0\/Eg n 3=1\/Eg n 3=2:=by omega
 rcases this with h|h|h <;> simp[h]
abbrev s_m_Attributes:Spc:=aS a0 bD (enc (X:=List Attr)) (fun _ l=>qeT l)
theorem GB:aq qu pV S a0 bD (enc (X:=List Attr)) (fun _ l=>qeT l):=by
 rintro x -
 simp[qu,pV]
 exact cB (Y:=List Attr) [⟨⟨#[119,111,114,100]⟩,false⟩,⟨⟨#[116,97,103]⟩,false⟩,⟨⟨#[102,101,97,116]⟩,true⟩] (by simp) rfl
end Go.Gv

namespace Go.Gv
open Cod (enc dec)
variable {S S0:Nat->Spc}
abbrev s_m_nodes:Spc:=qnN ql4 qcz zR Nt
abbrev s_m_heads:Spc:=qnN qcz qjQ zR Ur
theorem ZF{H:ab}{id el n:Nat}{v:Value}{d d':D}(h:H id=some (.row v el n [d]))(hd:FrzTo H d d')(hk:d'.kn=true/\d'.cells.length=n):FrzTo H (.own id v) (.list n [d']):=by
 refine .row h rfl (fun e he=>?_) (fun k c c' h1 h2=>?_)
 ·simp at he;subst he;exact hk
 ·cases k with
  | zero=>simp at h1 h2;subst h1;subst h2;exact hd
  | succ k=>simp at h1
def Zr(l:List Int):List D:=l.map enc
theorem qjH(a b c d e f g h:Int):D.list 1 [.v (.int .i64 a), .v (.int .i64 b), .v (.int .i64 c), .v (.int .i64 d), .v (.int .i64 e), .v (.int .i64 f), .v (.int .i64 g), .v (.int .i64 h)]= .list 1 (Zr [a,b,c,d,e,f,g,h]):=id rfl
theorem Zq(l:List Int):(Zr l).length=l.length:=by simp[Zr]
theorem qcZ(l:List Int)(i:Nat)(d:D):((Zr l)[i]? =some d)=∃s,l[i]? =some s/\ .v (.int .i64 s)=d:=by
 simp[Zr]
theorem Xt{l:List (List B)}{r:List B}(h:∀x∈l,Dp x)(hr:Dp r):∀x∈l++ [r],Dp x:=fun x hx=>by
 rcases qtK.1 hx with hx|hx
 ·exact h x hx
 ·rw[qvi]at hx;rw[hx];exact hr
theorem LG(h1:S dq=s_m_Next)(h2:S rT=s_m_Attributes)(h3:S Im=s_m_word)(h4:S MW=s_m_tag)(h5:S wv=s_m_features)
 (h6:S uY=s_m_Type) (h7:S mJ=s_r06_SortRegions) (h8:S rR=s_m_nodes) (h9:S rS=s_m_heads):
 aq ln kO S (aT (a2 B Int)) (fun x=>1<=x.2.2/\x.2.2<=1000) (enc (X:=Corpus)) (fun x c=>Qr c/\J8 c/\(c.toks.length:Int)<=x.2.2):=by
 rintro⟨L,name,most⟩ hm
 have hm:1<=most/\most<=1000:=hm
 simp[ln,kO,h1,h2]
 refine fun b6=>⟨by omega,fun y hy=>⟨by simp only[InR];omega,trivial,fun at_ hat v26 b8=>?_⟩⟩
 have hal:at_.length=3:=by rw[show at_=iu from hat];rfl
 obtain⟨n,hn0,hn⟩:∃n:Nat,1+y=(n:Int)/\1<=n/\n<=1000:=⟨(1+y).toNat,by omega,by omega⟩
 rw[hn0]
 refine jj (X:=sH) [0,6,7,8] [6] [26] [] (fun t=>t.b=0/\t.e=n) (fun _=>[]) (fun t=>[(8, .box b8 [enc at_, .v (.slice none 0 0),enc [t], .v (.slice none 0 0), .v (.slice none 0 0), .v (.slice none 0 0), .v (.slice none 0 0)])]) [8] (fun _=>rfl) (by decide) ?_ ?_
 ·simp[h1,XB,pq,sS]
  refine fun z _ _=>⟨fun _ u hu0 hu1=>⟨hu0,hu1,fun s _=>⟨⟨name,0,n, [⟨⟨#[121,101,97,114]⟩,s⟩]⟩,⟨rfl,rfl⟩, .inl (ZF (el:=zF) (by simp[FT]) (.same _) ⟨rfl,rfl⟩)⟩⟩,fun _=>⟨⟨name,0,n, []⟩,⟨rfl,rfl⟩, .inl (ZF (el:=zF) (by simp[FT];rfl) ?_ ⟨rfl,rfl⟩)⟩⟩
  rw[cJ,cJ,cJ,cJ]
  exact⟨.same _, .same _, .same _, .nil _, .same _⟩
 ·rintro t ⟨ht1,ht2⟩
  refine jj (X:=List (List B)) [0,6,7,8] [6] [66] [] (fun l=>l.length=n/\∀r∈l,Dp r) (fun _=>[]) (fun l=>[(8, .box b8 [enc at_,enc l,enc [t], .v (.slice none 0 0), .v (.slice none 0 0), .v (.slice none 0 0), .v (.slice none 0 0)])]) [8] (fun _=>rfl) (by decide) ?_ ?_
  ·simp[h1]
   refine qO (X:=Int×Value×List (List B)) [0,6,7,8] [6] [] [] [] [] (fun x=>0<=x.1/\x.1<=n/\(x.2.2.length:Int)=x.1/\∀r∈x.2.2,Dp r) (fun x=>[(9,enc x.1)]) (fun x=>[(8, .box b8 [enc at_, .own 66 x.2.1,enc [t], .v (.slice none 0 0), .v (.slice none 0 0), .v (.slice none 0 0), .v (.slice none 0 0)]),(66, .row x.2.1 lA 1 (x.2.2.map enc))]) (fun x=>n -x.1.toNat) (0, .slice none 0 0, []) [8,66] (fun _=>rfl) (by decide) (by decide) ?_ ?_ ?_ ?_
   ·simp
   ·simp
   ·simp[isNilRow]
    exact .nilown 66
   ·rintro⟨i,v,l⟩ ⟨q1,q2,q3,q4⟩
    simp only at q1 q2 q3 q4
    simp[h1,h3,h4,h5,qjH,Zq,qcZ]
    refine⟨fun hi y hy0 hy1=>?_,fun hi=>⟨l,⟨by omega,q4⟩, .inl (gP lA (by simp[FT]))⟩⟩
    have a1:y.tmod 8=y % 8:=Int.tmod_eq_emod_of_nonneg hy0
    have a2:y.tdiv 8=y/8:=Int.tdiv_eq_ediv_of_nonneg hy0
    have a3:(y/8).tmod 2=(y/8) % 2:=Int.tmod_eq_emod_of_nonneg (by omega)
    have a4:y.tdiv 12=y/12:=Int.tdiv_eq_ediv_of_nonneg hy0
    rw[a1,a2,a3,a4]
    refine⟨by omega,by omega,fun s hs=>⟨?_,fun w1 hw1=>⟨by simp only[InR];omega,by omega,fun w2 hw2=>⟨by simp only[InR];omega,by omega,fun w3 hw3=>⟨by omega,by omega,fun v2=>⟨by simp only[InR];omega,i+1,v2,l++ [[w1,w2,w3]],⟨by omega,by omega,by simp;omega,Xt q4 ⟨w1,w2,w3,hw1,hw2,hw3,rfl⟩⟩,⟨rfl, .inl (.inl rfl), .inl (.inl (by simp))⟩,by omega⟩⟩⟩⟩⟩⟩
    have:=qtJ hs
    simp at this
    omega
  ·rintro toks ⟨htk,hto⟩
   refine jj (X:=List Region) [0,6,7,8] [6,8] [165] [] (fun l=>l.length<=8/\∀r∈l,0<=r.b/\r.b<=n/\0<=r.e/\r.e<=n) (fun l=>[(11,enc l)]) (fun _=>[]) [] (fun _=>rfl) (by decide) ?_ ?_
   ·simp[h1]
    intro k hk0 hk1
    refine qO (X:=Int×Value×List Region) [0,6,7,8] [6,8] [] [] [] [] (fun x=>0<=x.1/\x.1+x.2.2.length<=4/\∀r∈x.2.2,0<=r.b/\r.b<=n/\0<=r.e/\r.e<=n) (fun x=>[(11, .own 165 x.2.1),(12,enc x.1)]) (fun x=>[(165, .row x.2.1 lz 4 (x.2.2.map enc))]) (fun x=>x.1.toNat) (k, .slice none 0 0, []) [165] (fun _=>rfl) (by decide) (by decide) ?_ ?_ ?_ ?_
    ·simp;omega
    ·simp
     exact .nilown 165
    ·simp[isNilRow]
    ·rintro⟨k,v,l⟩ ⟨q1,q2,q3⟩
     simp only at q1 q2 q3
     simp[h1,h6]
     refine⟨fun hk=>⟨by omega,fun u hu z _ _=>⟨trivial,fun ty=>⟨by simp only[InR];omega,by simp only[InR];omega,by omega,fun w hw=>⟨by simp only[InR];omega,fun b14=>?_⟩⟩⟩⟩,fun hk=>⟨l,⟨by omega,q3⟩,gP lz (by simp[FT])⟩⟩
     have hr:0<=u/\u<=n/\0<=u+1+w/\u+1+w<=n:=by omega
     generalize u+1+w=e' at*
     refine jj (X:=List Pair) [0,6,7,8,11,12,14] [6,8,165] [] [] (fun _=>True) (fun _=>[]) (fun kv=>[(14, .box b14 [.v (.string ty), .v (.int .i64 u), .v (.int .i64 e'),enc kv])]) [14] (fun _=>rfl) (by decide) ?_ ?_
     ·simp[h1,N9,pq,sS]
      exact fun _ _ _ _ q hq0 hq1=>⟨hq0,hq1,fun s _=>⟨[⟨⟨#[110]⟩,s⟩], .inl (.inl rfl)⟩⟩
     ·rintro kv -
      simp only[qgo,qcR]
      simp
      refine ba (X:=Bool) [0,6,7,8,11,12,14] [6,8,14,165] (fun _=>True) (fun x=>[(15,enc x)]) (fun _=>[]) ?_ ?_
      ·simp[-Bool.exists_bool]
       intro _
       refine ai (X:=Bool) [0,6,7,8,11,12,14,101] [6,8,14,165] l.length (fun _ _=>True) (fun x=>[(15,enc x)]) (fun _=>[]) false (by simp) (by simp) (by omega) (by simp) (by simp) trivial (by simp) (by simp) ?_ ?_
       ·rintro j cr hj -
        obtain⟨x,hx⟩:=dM hj
        obtain⟨_,hgx⟩:=qtG.1 hx
        simp[hj,hx,hgx, -Bool.exists_bool]
        exact fun _ _ _ _=>⟨fun _ _ _=>⟨_,(Bool.not_not _).symm⟩,fun _ _=>⟨_,(Bool.not_not _).symm⟩⟩
       ·rintro cr -
        simp[-Bool.exists_bool]
      ·rintro cr -
       simp[-Bool.exists_bool]
       refine⟨fun _=>⟨by omega,by omega,fun v2=>⟨by simp only[InR];omega,k -1,v2,l++ [⟨ty,u,e',kv⟩],⟨by omega,by simp;omega,fun r hrr=>?_⟩,⟨⟨.same _,rfl⟩, .inl (.inl (by simp))⟩,by omega⟩⟩,fun _=>⟨by simp only[InR];omega,k -1,v,l,⟨by omega,by omega,q3⟩,⟨⟨.same _,rfl⟩, .inl (.inl rfl)⟩,by omega⟩⟩
       rcases qtK.1 hrr with hrr|hrr
       ·exact q3 r hrr
       ·simp at hrr;subst hrr;exact hr
   ·rintro rg ⟨hr1,hr2⟩
    simp[h7,h8]
    refine⟨by simp only[Sw];omega,fun rs ⟨hs1,hs2⟩=>⟨⟨at_,toks, [t],rs, [], [], []⟩,by simp[ql4],by simp only[zR];omega,fun c hc=>?_⟩⟩
    obtain⟨ns,rfl,hns,hnd⟩:=hc
    simp only at hnd
    simp[qcz]
    refine jj (X:=List Int×List B) [6,8] [6] [] [] (fun x=>x.1.length<=n/\x.2.length<=n/\∀h∈x.1,h<=n) (fun _=>[]) (fun x=>[(8, .box b8 [enc at_,enc toks,enc [t],enc rs,enc ns,enc x.1,enc x.2])]) [8] (fun _=>rfl) (by decide) ?_ ?_
    ·simp[h1,h9]
     refine fun z _ _=>⟨fun _=>⟨⟨at_,toks, [t],rs,ns, [], []⟩,by simp[qcz],by simp only[zR];omega,fun c hc=>?_⟩,fun _=>⟨[], [],⟨by simp,by simp,by simp⟩, .inl ⟨rfl,rfl⟩⟩⟩
     obtain⟨hs,rl,rfl,g1,g2,g3⟩:=hc
     simp only at g1 g2 g3
     simp[qjQ]
     exact⟨hs,rl,⟨by omega,by omega,fun h hh=>by have:=g3 h hh;omega⟩, .inl (.inl ⟨rfl,rfl⟩)⟩
    ·rintro⟨hs,rl⟩ ⟨p1,p2,p3⟩
     simp only at p1 p2 p3
     simp
     refine cB ⟨at_,toks, [t],rs,ns,hs,rl⟩ (.same _) ⟨?_,⟨hat,hto⟩,by show(toks.length:Int)<=most;omega⟩
     refine⟨⟨ht1,by omega,by show t.e=(toks.length:Int);omega⟩,by simp,by simp only;omega,by simp,by simp only;omega,by simp only;omega,by simp only;omega,by simp only;omega,by simp only;omega,fun r hr=>?_,fun m hm=>?_,hnd.2,fun h hh=>?_⟩
     ·have:=hr2 r (hs2 r hr)
      simp only
      omega
     ·have:=hnd.1 m hm
      simp only
      omega
     ·have:=p3 h hh
      simp only
      omega
end Go.Gv

namespace Go.Gv
open Go.Proofs
theorem LW:Tri Tryz.prog ti s_m_Mod.pt:=
 ae (ag ac) YM (fun _=>qtF rfl) (qbJ)
theorem eY:Tri Tryz.prog dq s_m_Next.pt:=Xs (S:=Jy [(ti,s_m_Mod)]) (ag (aa LW ac)) rfl HK (by decide)
theorem qb2:Tri Tryz.prog MX s_m_New.pt:=qbZ (Q0 (ag ac) YL (by decide) qbI)
theorem EX:Tri Tryz.prog tg s_r04_First.pt:=
 ae (ag ac) Mu (fun _=>qtF rfl) (NN)
theorem Q9:Tri Tryz.prog Bz s_r04_Next.pt:=
 ae (ag (aa EX ac)) ON (fun _=>qtF rfl) (QK rfl)
theorem eG:Tri Tryz.prog cL s_r04_ValidName.pt:=
 ae (ag (aa EX (aa Q9 ac))) D1 (fun _=>qtF rfl) (Fn rfl rfl)
theorem N7:Tri Tryz.prog yV s_r01_Units.pt:=
 ae (ag ac) Mw (fun _=>qtF rfl) (NP)
theorem N6:Tri Tryz.prog yU s_r01_Valid.pt:=
 ae (ag (aa N7 ac)) Mv (fun _=>qtF rfl) (NO rfl)
theorem nB:Tri Tryz.prog fw s_r04_ValidValue.pt:=
 ae (ag (aa N6 ac)) CL (fun _=>qtF rfl) (DE rfl)
theorem N5:Tri Tryz.prog yT s_r05_Parse.pt:=
 ae (ag (aa nB ac)) Mt (fun _=>qtF rfl) (NM rfl)
theorem Q7:Tri Tryz.prog Bw s_r06_sign.pt:=
 ae (ag ac) OL (fun _=>qtF rfl) (QI)
theorem JA:Tri Tryz.prog tY s_r06_compare.pt:=
 ae (ag ac) HD (fun _=>qtF rfl) (Jg)
theorem pn:Tri Tryz.prog eQ s_r06_CompareRegions.pt:=
 ae (ag (aa Q7 (aa JA ac))) xx (fun _=>qtF rfl) (xN rfl rfl)
theorem DO:Tri Tryz.prog nW s_r06_Attributes.pt:=
 ae (ag (aa eG ac)) CK (fun _=>qtF rfl) (DD rfl)
theorem N2:Tri Tryz.prog yQ s_r06_Value.pt:=
 ae (ag (aa N5 (aa nB ac))) Mq (fun _=>qtF rfl) (NJ rfl rfl)
theorem EW:Tri Tryz.prog tf s_r06_pairs.pt:=
 ae (ag (aa eG (aa nB ac))) Mo (fun _=>qtF rfl) (NH rfl rfl)
theorem Ch:Tri Tryz.prog qJ s_r06_within.pt:=
 ae (ag ac) JD (fun _=>qtF rfl) (Lv)
theorem Q8:Tri Tryz.prog By s_r06_bare.pt:=
 ae (ag ac) OM (fun _=>qtF rfl) (QJ)
theorem LT:Tri Tryz.prog wo s_r06_TextAt.pt:=
 ae (ag ac) JG (fun _=>qtF rfl) (Ly)
theorem GU:Tri Tryz.prog rP s_r06_FindText.pt:=
 ae (ag ac) FI (fun _=>qtF rfl) (Gt)
theorem xX:Tri Tryz.prog iP s_r06_sameAttributes.pt:=
 ae (ag ac) xw (fun _=>qtF rfl) (xM)
theorem LS:Tri Tryz.prog wn s_r06_cyclic.pt:=
 ae (ag ac) JF (fun _=>qtF rfl) (Lx)
theorem LR:Tri Tryz.prog wm s_r06_tokens.pt:=
 ae (ag (aa N2 ac)) JE (fun _=>qtF rfl) (Lw rfl)
theorem N0:Tri Tryz.prog yO s_r06_texts.pt:=
 ae (ag (aa eG (aa EW ac))) Mn (fun _=>qtF rfl) (NG rfl rfl)
theorem Jz:Tri Tryz.prog tX s_r06_regions.pt:=
 ae (ag (aa eG (aa EW (aa Ch (aa pn ac))))) HC (fun _=>qtF rfl) (Jf rfl rfl rfl rfl)
theorem N4:Tri Tryz.prog yS s_r06_Nodes.pt:=
 ae (ag (aa eG (aa Ch ac))) Ms (fun _=>qtF rfl) (NL rfl rfl)
theorem N1:Tri Tryz.prog yP s_r06_heads.pt:=
 ae (ag (aa eG (aa Q8 (aa LT (aa LS ac))))) Mp (fun _=>qtF rfl) (NI rfl rfl rfl rfl)
theorem GT:Tri Tryz.prog rO s_r06_Validate.pt:=
 ae (ag (aa DO (aa LR (aa N0 (aa Jz (aa N4 (aa N1 ac))))))) FH (fun _=>qtF rfl) (Gs rfl rfl rfl rfl rfl rfl)
theorem N3:Tri Tryz.prog yR s_r06_Valid.pt:=
 ae (ag (aa GT ac)) Mr (fun _=>qtF rfl) (NK rfl)
theorem Ci:Tri Tryz.prog mJ s_r06_SortRegions.pt:=
 ae (ag (aa pn ac)) A1 (fun _=>qtF rfl) (BQ rfl)
theorem GS:Tri Tryz.prog rN s_r06_allHeads.pt:=
 ae (ag ac) FG (fun _=>qtF rfl) (Gr)
theorem LU:Tri Tryz.prog wq s_r06_Concat.pt:=
 ae (ag (aa N3 (aa xX (aa GU (aa GS ac))))) JH (fun _=>qtF rfl) (Lz rfl rfl rfl rfl)
theorem Xz:Tri Tryz.prog Im s_m_word.pt:=
 ae (ag ac) Vq (fun _=>qtF rfl) (Xe)
theorem qb1:Tri Tryz.prog MW s_m_tag.pt:=
 ae (ag ac) YK (fun _=>qtF rfl) (qbH)
theorem LV:Tri Tryz.prog wv s_m_features.pt:=
 ae (ag ac) JO (fun _=>qtF rfl) (LE)
theorem XA:Tri Tryz.prog uY s_m_Type.pt:=
 ae (ag (aa LW ac)) KF (fun _=>qtF rfl) (Xf rfl)
theorem GX:Tri Tryz.prog rT s_m_Attributes.pt:=
 ae (ag ac) FP (fun _=>qtF rfl) (GB)
theorem GV:Tri Tryz.prog rR s_m_nodes.pt:=
 EU (ag (aa eY ac)) FM (by decide) (UI rfl)
theorem GW:Tri Tryz.prog rS s_m_heads.pt:=
 EU (ag (aa eY ac)) FO (by decide) (UJ rfl)
theorem Cj:Tri Tryz.prog mN s_m_Document.pt:=
 ae (ag (aa eY (aa GX (aa Xz (aa qb1 (aa LV (aa XA (aa Ci (aa GV (aa GW ac)))))))))) A7 (fun _=>qtF rfl) (LG rfl rfl rfl rfl rfl rfl rfl rfl rfl)
theorem FC:Tri Tryz.prog qb s_m_Corpus.pt:=
 ae (ag (aa eY (aa Cj (aa LU ac)))) D8 (fun _=>qtF rfl) (QN rfl rfl rfl)
end Go.Gv
