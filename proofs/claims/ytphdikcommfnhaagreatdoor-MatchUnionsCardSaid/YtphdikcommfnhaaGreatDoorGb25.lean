/- A part of the framework and of the walks: W15 T20 W16 T21 W18 W9 W19 Asm. -/
import Derived.Test.YtphdikcommfnhaaGreatDoorGb24
import Derived.Test.YtphdikcommfnhaaGreatDoorGb20
import Derived.Test.YtphdikcommfnhaaGreatDoorGb22
import Derived.Test.YtphdikcommfnhaaGreatDoorGb21
set_option linter.unusedSimpArgs false
set_option linter.unusedVariables false
set_option maxRecDepth 100000

namespace Go.Gv
open Cod (enc dec)
variable {S S0:Nat->Spc}
theorem qbg:qax Jj HQ S:=by
 intro l
 simp[Jj,HQ, -List.map_take,yq,Cn]
 omega
def qli(c:Corpus):List D:=[enc c.attrs,enc c.toks,enc c.texts,enc c.regs, .v (.slice none 0 0), .v (.slice none 0 0), .v (.slice none 0 0)]
def qb3(c:Corpus):List D:=[enc c.attrs,enc c.toks,enc c.texts,enc c.regs,enc c.nodes, .v (.slice none 0 0), .v (.slice none 0 0)]
def qi6(c:Corpus):List D:=[enc c.attrs,enc c.toks,enc c.texts,enc c.regs,enc c.nodes,enc c.heads,enc c.rels]
end Go.Gv

namespace Go.Gv
section
variable {S:Nat->Spc}{σ:Sg}{H:ab}{K:Ex->Sg->ab->Prop}
theorem rA{X:Type}(ks hk gv0 gv:List Nat)(rn0 rn:List (Nat×Nat))(P:X->Prop)(sl:X->List (Nat×D))(hp:X->List (Nat×Res))(m:X->Nat)(x0:X)(ids:List Nat)(hids:∀x,(hp x).map (·.1)=ids)
 (hi0:qhC rn0 (ids++hk) gv0/\∀i∈hk,i∉ids->R2 rn0 i=i) (hi:qhC rn (ids++hk) gv/\∀i∈hk,i∉ids->R2 rn i=i) {k:Nat} {b:CC} (h0:P x0)
 (hs:zM (Gd gv0 H) (sl x0) σ) (hh:xo (Gd gv0 H) rn0 (hp x0) H)
 (hr:∀x,P x->vc S b (Xe P (fun y=>qaW σ H ks hk gv rn (sl y) (hp y)) m x K) (tg (sl x) (jq ks σ)) (gd (hp x) (ko hk H))):vc S (.loop k b) K σ H:=by
 rw[Nn]
 refine⟨⟨X,P,fun x=>tg (sl x) (jq ks σ),fun x=>gd (hp x) (ko hk H),m⟩,⟨x0,h0,DM (by rw[hids x0];exact hi0.1) (by rw[hids x0];exact hi0.2) hs (fun _ _=>rfl) hh (fun _ _=>rfl)⟩,fun x hx=>vJ b _ _ (fun e σ' H' h=>?_) (hr x hx)⟩
 cases e with
 | norm=>
   obtain⟨y,h1,h2,h3⟩:=h
   exact⟨y,h1,DM (by rw[hids y];exact hi.1) (by rw[hids y];exact hi.2) h2.1 h2.2.1 h2.2.2.1 h2.2.2.2,h3⟩
 | ex i=>exact h
 | ret=>exact h
end
end Go.Gv

namespace Go.Gv
open Cod (enc dec)
variable {S S0:Nat->Spc}
def Ow(l:List B):List D:=l.map enc
theorem Ov(a b:B):D.list 1 [.v (.string a), .v (.string b)]= .list 1 (Ow [a,b]):=id rfl
theorem XF(a b c:B):D.list 1 [.v (.string a), .v (.string b), .v (.string c)]= .list 1 (Ow [a,b,c]):=id rfl
theorem pQ(l:List B):(Ow l).length=l.length:=by simp[Ow]
theorem tw(l:List B)(i:Nat)(d:D):((Ow l)[i]? =some d)=∃s,l[i]? =some s/\ .v (.string s)=d:=by
 simp[Ow]
def qaP(n:Nat)(ns:List vF):Prop:=(∀x∈ns,0<=x.b/\x.b<=n/\0<=x.e/\x.e<=n)/\∀ (j:Nat) (y:vF),ns[j]? =some y->y.par < j
def NL(c c':Corpus):Prop:=∃ns,c'={ c with nodes:=ns } /\ns.length<=6/\qaP c.toks.length ns
def Ab(c:Corpus):Prop:=c.toks.length<=4096
theorem UR(h1:S bc=s_m_Next):NK qJ qr S qli qb3 Ab NL:=by
 intro L b c hc
 have hc:c.toks.length<=4096:=hc
 simp[qJ,qr,h1,qli]
 intro _ k hk0 hk1
 refine rA (X:=Int×Int×Value×List vF) [0,1,4] [] [] [] [] [] (fun x=>0<=x.1/\x.1<=c.toks.length/\0<=x.2.1/\2*x.2.1+x.2.2.2.length<=6/\qaP c.toks.length x.2.2.2) (fun x=>[(5,enc x.1),(6,enc x.2.1)]) (fun x=>[(1, .box b [enc c.attrs,enc c.toks,enc c.texts,enc c.regs, .own 61 x.2.2.1, .v (.slice none 0 0), .v (.slice none 0 0)]),(61, .row x.2.2.1 tv 4 (x.2.2.2.map enc))]) (fun x=>x.2.1.toNat) (0,k, .slice none 0 0, []) [1,61] (fun _=>rfl) (by decide) (by decide) ?_ ?_ ?_ ?_
 ·simp[qaP];omega
 ·simp
 ·simp[isNilRow]
  exact .nilown 61
 ·rintro⟨at_,k,v,l⟩ ⟨q1,q2,q3,q4,q5⟩
  simp only at q1 q2 q3 q4 q5
  simp[h1,Ov,pQ,tw]
  have fin:qec qb3 b (NL c) (D.tup []) (ah (ah (ah (fun x=>none) 96 none) 61 (some (Res.row v tv 4 (List.map enc l)))) 1 (some (Res.box b [D.list 2 (List.map enc c.attrs),D.list 1 (List.map enc c.toks),D.list 4 (List.map enc c.texts),D.list 4 (List.map enc c.regs),D.own 61 v,D.v (Value.slice none 0 0),D.v (Value.slice none 0 0)]))):=by
   refine⟨{ c with nodes:=l },_,rfl,rfl,?_,⟨l,rfl,by omega,q5⟩⟩
   simp[qb3]
   exact iX tv rfl
  refine⟨fun hk=>⟨fun hat y hy0 hy1=>⟨by simp only[InR];omega,fun _=>fin,fun hb=>⟨by simp only[InR];omega,by simp only[InR];omega,by omega,fun y1 hy1'=>⟨by simp only[InR];omega,fun _ z hz0 hz1=>⟨hz0,hz1,fun lb hlb=>⟨by omega,by omega,fun v1=>?_⟩⟩⟩⟩⟩,fun _=>fin⟩,fun _=>fin⟩
  have hb0:0<=at_+y:=by omega
  generalize at_+y=b' at*
  have he:b'+1+y1<=c.toks.length/\0<=y1:=by omega
  generalize hee:b'+1+y1=e' at*
  have ok1:qaP c.toks.length (l++ [⟨lb,b',e', -1⟩]):=by
   refine⟨fun x hx=>?_,fun j x hx=>?_⟩
   ·rcases qsZ.1 hx with hx|hx
    ·exact q5.1 x hx
    ·simp at hx;subst hx;simp only;omega
   ·by_cases e:j < l.length
    ·rw[qtd e]at hx;exact q5.2 j x hx
    ·rw[qs3 (by omega)]at hx
     have hx:=qsW hx
     simp at hx;subst hx;simp only;omega
  refine bB (X:=Value×List vF) [0,1,4,6,8] [] (fun x=>x.2.length<=l.length+2/\qaP c.toks.length x.2) (fun _=>[]) (fun x=>[(1, .box b [enc c.attrs,enc c.toks,enc c.texts,enc c.regs, .own 61 x.1, .v (.slice none 0 0), .v (.slice none 0 0)]),(61, .row x.1 tv 4 (x.2.map enc))]) ?_ ?_
  ·simp[h1,Ov,pQ,tw]
   refine fun u hu0 hu1=>⟨fun _=>⟨by simp only[InR];omega,by omega,fun y2 hy2=>⟨by simp only[InR];omega,fun z2 hz20 hz21=>⟨hz20,hz21,fun lb2 _=>⟨by simp only[InR];omega,by simp only[InR];omega,by omega,fun y3 hy3=>⟨by simp only[InR];omega,by omega,by omega,fun v2=>⟨v2,l++ [⟨lb,b',e', -1⟩] ++ [⟨lb2,b'+y2,b'+y2+1+y3,l.length⟩],⟨by simp,?_⟩, .inl rfl, .inl ⟨rfl,by simp⟩⟩⟩⟩⟩⟩⟩,fun _=>⟨v1,l++ [⟨lb,b',e', -1⟩],⟨by simp,ok1⟩, .inl rfl, .inl ⟨rfl,by simp⟩⟩⟩
   refine⟨fun x hx=>?_,fun j x hx=>?_⟩
   ·rcases qsZ.1 hx with hx|hx
    ·exact ok1.1 x hx
    ·simp at hx;subst hx;simp only;omega
   ·by_cases e:j < (l++ [(⟨lb,b',e', -1⟩:vF)]).length
    ·rw[qtd e]at hx;exact ok1.2 j x hx
    ·rw[qs3 (by omega)]at hx
     have hx:=qsW hx
     simp at hx;subst hx;simp at e;simp only;omega
  ·rintro⟨v2,l2⟩ ⟨r1,r2⟩
   simp only at r1 r2
   simp
   exact⟨by simp only[InR];omega,e',k -1,v2,l2,⟨by omega,by omega,by omega,by omega,r2⟩,⟨⟨rfl,rfl⟩, .inl (.inl rfl), .inl (.inl rfl)⟩,by omega⟩
end Go.Gv

namespace Go.Gv
theorem Xc{σ:Sg}{H:ab}(t id:Nat)(x:Value)(el n:Nat)(es:List D)(h1:σ t= .own id x)(h2:H id=some (.row x el n es)):Wk σ H (upd σ t (.sub id x n 0 es.length)) H:=by
 intro E a w ⟨hd,hN,tp,hw,hr⟩
 refine⟨hd,hN,tp,hw,fun s=>?_⟩
 unfold upd
 split
 ·rename_i e
  subst e
  have h3:=hr s
  rw[h1]at h3
  have e1:a.tmps.getD s undef=x:=by
   generalize a.tmps.getD s undef=y at h3
   cases h3;rfl
  obtain⟨xs,⟨_,h4⟩,_⟩:=hw.sat.ok id _ h2
  rw[e1]
  rcases h4 with⟨rfl,h5⟩|⟨g,cap,cur,rfl,_,_,h6,h7,_⟩
  ·rw[h5]
   exact .subnil id n
  ·exact .sub id g es.length cap n 0 es.length _ (qtl _) (qs2 _) h6 h7 (fun _=>by simp)
 ·exact hr s
open Cod (enc dec) in
theorem qja{X:Type}[Cod X]{H:ab}{id n hi:Nat}{v:Value}{l:List X}(el:Nat)(h:H id=some (.row v el n (l.map enc)))(hh:hi=l.length)(hn:n=Cod.wd X:=by rfl):FrzTo H (.sub id v n 0 hi) (.list n (l.map enc)):=by
 subst hh
 have e:((l.map (enc (X:=X))).take l.length).drop 0=l.map enc:=by
  rw[List.drop_zero,quy (by simp)]
 refine .sub h (by rw[e]) (fun d hd=>?_) (fun k c c' h1 h2=>?_)
 ·obtain⟨x,_,rfl⟩:=qs7.1 hd
  exact⟨Cod.kn x,(Cod.wid x).trans hn.symm⟩
 ·rw[e,h2]at h1
  cases h1
  exact .same _
end Go.Gv

namespace Go.Gv
open Cod (enc dec)
variable {S S0:Nat->Spc}
def qdp(n:Nat)(hs:List Int)(rs:List B):Prop:=hs.length=n/\rs.length=n/\∀h∈hs,h<=n
def UC(c c':Corpus):Prop:=∃hs rs,c'={ c with heads:=hs,rels:=rs } /\hs.length<=c.toks.length/\rs.length<=c.toks.length/\∀h∈hs,h<=c.toks.length
theorem US(h1:S bc=s_m_Next):NK qL qt S qb3 qi6 Ab UC:=by
 intro L b c hc
 have hc:c.toks.length<=4096:=hc
 simp[qL,qt,h1,qb3]
 intro _
 refine rA (X:=Int×List Int) [0,1,4] [1] [] [27] [] [] (fun x=>0<=x.1/\x.1<=c.toks.length/\(x.2.length:Int)=x.1/\∀y∈x.2,0<=y/\y < c.toks.length) (fun x=>[(5,enc x.2),(6,enc x.1)]) (fun x=>[]) (fun x=>c.toks.length -x.1.toNat) (0, []) [] (fun _=>rfl) (by decide) (by decide) ?_ ?_ ?_ ?_
 ·simp
 ·simp
 ·simp
 ·rintro⟨i,l⟩ ⟨q1,q2,q3,q4⟩
  simp only at q1 q2 q3 q4
  simp[h1]
  refine⟨fun hi=>⟨by simp only[InR];omega,by omega,fun y hy=>?_⟩,fun hi=>?_⟩
  ·have e:List.take y.toNat (List.map enc l) ++D.v (.int .i64 i)::List.drop y.toNat (List.map enc l)=(l.take y.toNat++i::l.drop y.toNat).map enc:=by simp
   refine⟨by omega,by omega,by omega,by omega,by omega,by omega,by omega,by omega,by omega,by omega,fun v=>⟨by simp only[InR];omega,i+1,l.take y.toNat++i::l.drop y.toNat,⟨by omega,by omega,?_,fun z hz=>?_⟩,⟨?_,rfl⟩,by omega⟩⟩
   ·simp;omega
   ·rcases qsZ.1 hz with hz|hz
    ·exact q4 z (qth hz)
    ·rcases qsY.1 hz with hz|hz
     ·omega
     ·exact q4 z (qtM hz)
   ·rw[e]
    exact iX ig (by simp[Gd])
  ·have hil:l.length=c.toks.length:=by omega
   refine⟨by omega,by omega,fun v8=>⟨by omega,by omega,fun v9=>?_⟩⟩
   refine bB (X:=Bool×List Int×List B) [1] [1] (fun x=>qdp c.toks.length x.2.1 x.2.2) (fun x=>[(8, .sub 40 v8 1 0 c.toks.length),(9, .sub 42 v9 1 0 c.toks.length),(10,enc x.1)]) (fun x=>[(40, .row v8 ig 1 (x.2.1.map enc)),(42, .row v9 az 1 (x.2.2.map enc))]) ?_ ?_
   ·simp[-Bool.exists_bool]
    intro _
    refine DW ((Xc 8 40 v8 ig 1 _ rfl rfl).trans (Xc 9 42 v9 az 1 _ rfl rfl)) ?_
    simp only[qhS]
    refine ak (X:=Bool×List Int×List B) [0,1,5,8,9,43] [1] l.length (fun _ x=>qdp c.toks.length x.2.1 x.2.2) (fun x=>[(10,enc x.1)]) (fun x=>[(40, .row v8 ig 1 (x.2.1.map enc)),(42, .row v9 az 1 (x.2.2.map enc))]) (false,List.replicate c.toks.length 0,List.replicate c.toks.length ⟨#[]⟩) (by simp) (by simp) (by omega) (by simp) (by simp) (by simp[qdp]) (by simp) (by simp) ?_ ?_
    ·rintro k ⟨sm,hs,rs⟩ hk ⟨p1,p2,p3⟩
     simp only at p1 p2 p3
     obtain⟨x,hx⟩:=dO hk
     obtain⟨_,hgx⟩:=qsT.1 hx
     have hxr:=q4 x (dY hx)
     simp[hk,hx,hgx, -Bool.exists_bool]
     refine⟨by omega,by omega,by omega,fun a ha=>?_⟩
     have e1:(List.map enc hs).set x.toNat (D.v (Value.int .i64 (-1)))=(hs.set x.toNat (-1)).map enc:=iF hs _ _
     rw[e1]
     have p1':(hs.set x.toNat (-1)).length=c.toks.length:=by simp[p1]
     have p3':∀h∈hs.set x.toNat (-1),h<=c.toks.length:=fun h hh=>by
      rcases qtS hh with hh|hh
      ·exact p3 h hh
      ·omega
     generalize hs.set x.toNat (-1)=hs1 at p1' p3' ⊢
     clear p1 p3 ha e1
     refine bB (X:=List Int×List B) [0,1,5,8,9,10,12,43,44,45] [1] (fun x=>qdp c.toks.length x.1 x.2) (fun _=>[]) (fun x=>[(40, .row v8 ig 1 (x.1.map enc)),(42, .row v9 az 1 (x.2.map enc))]) ?_ ?_
     ·simp[h1,XF,pQ,tw, -Bool.exists_bool]
      have hlx:∀ (y:Int),hs1.length=c.toks.length->∃z,hs1[x.toNat]? =some z:=fun _ _=>dO (by omega)
      refine⟨fun hk0 y _ _=>⟨fun _=>⟨by omega,fun y2 hy2=>⟨by omega,by omega,fun a ha y3 hy30 hy31=>⟨hy30,hy31,fun s _=>⟨by omega,by omega,by omega,fun z _=>⟨by omega,by omega,by omega,fun z2 _=>⟨hs1.set x.toNat a,rs.set x.toNat s,⟨by simp[p1'],by simp[p2],fun h hh=>?_⟩, .inl (iF hs1 _ _), .inl (iF rs _ _)⟩⟩⟩⟩⟩⟩,fun _=>⟨hs1,rs,⟨p1',p2,p3'⟩, .inl rfl, .inl rfl⟩⟩,fun _=>⟨hs1,rs,⟨p1',p2,p3'⟩, .inl rfl, .inl rfl⟩⟩
      rcases qtS hh with hh|hh
      ·exact p3' h hh
      ·have:=q4 a (dY ha)
       omega
     ·rintro⟨hs2,rs2⟩ ⟨r1,r2,r3⟩
      simp only at r1 r2 r3
      simp[-Bool.exists_bool]
      refine⟨fun _=>⟨by omega,by omega,by omega,fun a _=>⟨fun _=>⟨by omega,by omega,by omega,fun a2 _=>⟨!decide (a2=⟨#[]⟩),hs2,rs2,⟨r1,r2,r3⟩,by simp, .inl rfl, .inl rfl⟩⟩,fun _=>⟨true,hs2,rs2,⟨r1,r2,r3⟩,by simp, .inl rfl, .inl rfl⟩⟩⟩,fun _=>⟨true,hs2,rs2,⟨r1,r2,r3⟩,by simp, .inl rfl, .inl rfl⟩⟩
    ·rintro⟨sm,hs,rs⟩ ⟨p1,p2,p3⟩
     simp only at p1 p2 p3
     simp[-Bool.exists_bool]
     exact⟨sm,hs,rs,⟨p1,p2,p3⟩,rfl, .inl rfl, .inl rfl⟩
   ·rintro⟨sm,hs,rs⟩ ⟨p1,p2,p3⟩
    simp only at p1 p2 p3
    simp
    refine⟨fun _=>⟨{ c with heads:=hs,rels:=rs },_,rfl,rfl,?_,⟨hs,rs,rfl,by omega,by omega,p3⟩⟩,fun _=>⟨{ c with heads:=[],rels:=[] },_,rfl,rfl,?_,⟨[], [],rfl,by simp,by simp,by simp⟩⟩⟩
    ·simp[qi6]
     exact⟨qja ig rfl p1.symm,qja az rfl p2.symm⟩
    ·simp[qi6]
end Go.Gv

namespace Go.Gv
open Cod (enc dec)
variable {S S0:Nat->Spc}
abbrev s_m_word:Spc:=bp (a1 Int) (fun n=>0<=n/\n < 6) (enc (X:=B)) fun _ y=>y∈Qx
theorem Xh:ar EV Eh S (a1 Int) (fun n=>0<=n/\n < 6) (enc (X:=B)) fun _ y=>y∈Qx:=by
 rintro n hn
 have hn:0<=n/\n < 6:=hn
 simp[EV,Eh]
 refine⟨hn.1,hn.2,?_⟩
 have:n=0\/n=1\/n=2\/n=3\/n=4\/n=5:=by omega
 rcases this with rfl|rfl|rfl|rfl|rfl|rfl <;> simp[Qx]
abbrev s_m_tag:Spc:=bp (a1 Int) (fun n=>0<=n/\n < 2) (enc (X:=B)) fun _ y=>y∈qay
theorem qbf:ar Ji HP S (a1 Int) (fun n=>0<=n/\n < 2) (enc (X:=B)) fun _ y=>y∈qay:=by
 rintro n hn
 have hn:0<=n/\n < 2:=hn
 simp[Ji,HP]
 refine⟨hn.1,hn.2,?_⟩
 have:n=0\/n=1:=by omega
 rcases this with rfl|rfl <;> simp[qay]
abbrev s_m_features:Spc:=bp (a1 Int) (fun n=>0<=n/\n < 4) (enc (X:=B)) fun _ y=>y∈Ly
theorem LP:ar uL ur S (a1 Int) (fun n=>0<=n/\n < 4) (enc (X:=B)) fun _ y=>y∈Ly:=by
 rintro n hn
 have hn:0<=n/\n < 4:=hn
 simp[uL,ur]
 refine⟨hn.1,hn.2,?_⟩
 have:n=0\/n=1\/n=2\/n=3:=by omega
 rcases this with rfl|rfl|rfl|rfl <;> simp[Ly]
abbrev s_m_Type:Spc:=bp (a1 Int) bX (enc (X:=B)) pN
theorem Xi(h1:S pD=s_m_Mod):ar vz vm S (a1 Int) bX (enc (X:=B)) pN:=by
 rintro n -
 simp[vz,vm,h1]
 have h3:=Ir n 3 (by omega)
 refine⟨h3.1,h3.2,?_⟩
 have:ED n 3=0\/ED n 3=1\/ED n 3=2:=by omega
 rcases this with h|h|h <;> simp[h]
abbrev s_m_Attributes:Spc:=bp a0 bX (enc (X:=List Attr)) (fun _ l=>qeb l)
theorem GX:ar qM qu S a0 bX (enc (X:=List Attr)) (fun _ l=>qeb l):=by
 rintro x -
 simp[qM,qu]
 exact cV (Y:=List Attr) [⟨⟨#[119,111,114,100]⟩,false⟩,⟨⟨#[116,97,103]⟩,false⟩,⟨⟨#[102,101,97,116]⟩,true⟩] (by simp) rfl
end Go.Gv

namespace Go.Gv
open Cod (enc dec)
variable {S S0:Nat->Spc}
abbrev s_m_nodes:Spc:=qm2 qli qb3 Ab NL
abbrev s_m_heads:Spc:=qm2 qb3 qi6 Ab UC
theorem Zi{H:ab}{id el n:Nat}{v:Value}{d d':D}(h:H id=some (.row v el n [d]))(hd:FrzTo H d d')(hk:d'.kn=true/\d'.cells.length=n):FrzTo H (.own id v) (.list n [d']):=by
 refine .row h rfl (fun e he=>?_) (fun k c c' h1 h2=>?_)
 ·simp at he;subst he;exact hk
 ·cases k with
  | zero=>simp at h1 h2;subst h1;subst h2;exact hd
  | succ k=>simp at h1
def Y4(l:List Int):List D:=l.map enc
theorem qiX(a b c d e f g h:Int):D.list 1 [.v (.int .i64 a), .v (.int .i64 b), .v (.int .i64 c), .v (.int .i64 d), .v (.int .i64 e), .v (.int .i64 f), .v (.int .i64 g), .v (.int .i64 h)]= .list 1 (Y4 [a,b,c,d,e,f,g,h]):=id rfl
theorem Y3(l:List Int):(Y4 l).length=l.length:=by simp[Y4]
theorem qcr(l:List Int)(i:Nat)(d:D):((Y4 l)[i]? =some d)=∃s,l[i]? =some s/\ .v (.int .i64 s)=d:=by
 simp[Y4]
theorem Xw{l:List (List B)}{r:List B}(h:∀x∈l,DE x)(hr:DE r):∀x∈l++ [r],DE x:=fun x hx=>by
 rcases qsZ.1 hx with hx|hx
 ·exact h x hx
 ·rw[quw]at hx;rw[hx];exact hr
theorem LR(h1:S bc=s_m_Next)(h2:S np=s_m_Attributes)(h3:S Dp=s_m_word)(h4:S GE=s_m_tag)(h5:S rq=s_m_features)
 (h6:S nk=s_m_Type) (h7:S iO=s_r06_SortRegions) (h8:S nl=s_m_nodes) (h9:S nn=s_m_heads):
 ar lQ lC S (aT (a2 B Int)) (fun x=>1<=x.2.2/\x.2.2<=1000) (enc (X:=Corpus)) (fun x c=>Qy c/\KE c/\(c.toks.length:Int)<=x.2.2):=by
 rintro⟨L,name,most⟩ hm
 have hm:1<=most/\most<=1000:=hm
 simp[lQ,lC,h1,h2]
 refine fun b6=>⟨by omega,fun y hy=>⟨by simp only[InR];omega,trivial,fun at_ hat v26 b8=>?_⟩⟩
 have hal:at_.length=3:=by rw[show at_=iY from hat];rfl
 obtain⟨n,hn0,hn⟩:∃n:Nat,1+y=(n:Int)/\1<=n/\n<=1000:=⟨(1+y).toNat,by omega,by omega⟩
 rw[hn0]
 refine jF (X:=ti) [0,6,7,8] [6] [26] [] (fun t=>t.b=0/\t.e=n) (fun _=>[]) (fun t=>[(8, .box b8 [enc at_, .v (.slice none 0 0),enc [t], .v (.slice none 0 0), .v (.slice none 0 0), .v (.slice none 0 0), .v (.slice none 0 0)])]) [8] (fun _=>rfl) (by decide) ?_ ?_
 ·simp[h1,XF,pQ,tw]
  refine fun z _ _=>⟨fun _ u hu0 hu1=>⟨hu0,hu1,fun s _=>⟨⟨name,0,n, [⟨⟨#[121,101,97,114]⟩,s⟩]⟩,⟨rfl,rfl⟩, .inl (Zi (el:=zP) (by simp[Gd]) (.same _) ⟨rfl,rfl⟩)⟩⟩,fun _=>⟨⟨name,0,n, []⟩,⟨rfl,rfl⟩, .inl (Zi (el:=zP) (by simp[Gd];rfl) ?_ ⟨rfl,rfl⟩)⟩⟩
  rw[da,da,da,da]
  exact⟨.same _, .same _, .same _, .nil _, .same _⟩
 ·rintro t ⟨ht1,ht2⟩
  refine jF (X:=List (List B)) [0,6,7,8] [6] [66] [] (fun l=>l.length=n/\∀r∈l,DE r) (fun _=>[]) (fun l=>[(8, .box b8 [enc at_,enc l,enc [t], .v (.slice none 0 0), .v (.slice none 0 0), .v (.slice none 0 0), .v (.slice none 0 0)])]) [8] (fun _=>rfl) (by decide) ?_ ?_
  ·simp[h1]
   refine rA (X:=Int×Value×List (List B)) [0,6,7,8] [6] [] [] [] [] (fun x=>0<=x.1/\x.1<=n/\(x.2.2.length:Int)=x.1/\∀r∈x.2.2,DE r) (fun x=>[(9,enc x.1)]) (fun x=>[(8, .box b8 [enc at_, .own 66 x.2.1,enc [t], .v (.slice none 0 0), .v (.slice none 0 0), .v (.slice none 0 0), .v (.slice none 0 0)]),(66, .row x.2.1 lW 1 (x.2.2.map enc))]) (fun x=>n -x.1.toNat) (0, .slice none 0 0, []) [8,66] (fun _=>rfl) (by decide) (by decide) ?_ ?_ ?_ ?_
   ·simp
   ·simp
   ·simp[isNilRow]
    exact .nilown 66
   ·rintro⟨i,v,l⟩ ⟨q1,q2,q3,q4⟩
    simp only at q1 q2 q3 q4
    simp[h1,h3,h4,h5,qiX,Y3,qcr]
    refine⟨fun hi y hy0 hy1=>?_,fun hi=>⟨l,⟨by omega,q4⟩, .inl (iX lW (by simp[Gd]))⟩⟩
    have a1:y.tmod 8=y % 8:=Int.tmod_eq_emod_of_nonneg hy0
    have a2:y.tdiv 8=y/8:=Int.tdiv_eq_ediv_of_nonneg hy0
    have a3:(y/8).tmod 2=(y/8) % 2:=Int.tmod_eq_emod_of_nonneg (by omega)
    have a4:y.tdiv 12=y/12:=Int.tdiv_eq_ediv_of_nonneg hy0
    rw[a1,a2,a3,a4]
    refine⟨by omega,by omega,fun s hs=>⟨?_,fun w1 hw1=>⟨by simp only[InR];omega,by omega,fun w2 hw2=>⟨by simp only[InR];omega,by omega,fun w3 hw3=>⟨by omega,by omega,fun v2=>⟨by simp only[InR];omega,i+1,v2,l++ [[w1,w2,w3]],⟨by omega,by omega,by simp;omega,Xw q4 ⟨w1,w2,w3,hw1,hw2,hw3,rfl⟩⟩,⟨rfl, .inl (.inl rfl), .inl (.inl (by simp))⟩,by omega⟩⟩⟩⟩⟩⟩
    have:=qsW hs
    simp at this
    omega
  ·rintro toks ⟨htk,hto⟩
   refine jF (X:=List Region) [0,6,7,8] [6,8] [165] [] (fun l=>l.length<=8/\∀r∈l,0<=r.b/\r.b<=n/\0<=r.e/\r.e<=n) (fun l=>[(11,enc l)]) (fun _=>[]) [] (fun _=>rfl) (by decide) ?_ ?_
   ·simp[h1]
    intro k hk0 hk1
    refine rA (X:=Int×Value×List Region) [0,6,7,8] [6,8] [] [] [] [] (fun x=>0<=x.1/\x.1+x.2.2.length<=4/\∀r∈x.2.2,0<=r.b/\r.b<=n/\0<=r.e/\r.e<=n) (fun x=>[(11, .own 165 x.2.1),(12,enc x.1)]) (fun x=>[(165, .row x.2.1 lV 4 (x.2.2.map enc))]) (fun x=>x.1.toNat) (k, .slice none 0 0, []) [165] (fun _=>rfl) (by decide) (by decide) ?_ ?_ ?_ ?_
    ·simp;omega
    ·simp
     exact .nilown 165
    ·simp[isNilRow]
    ·rintro⟨k,v,l⟩ ⟨q1,q2,q3⟩
     simp only at q1 q2 q3
     simp[h1,h6]
     refine⟨fun hk=>⟨by omega,fun u hu z _ _=>⟨trivial,fun ty=>⟨by simp only[InR];omega,by simp only[InR];omega,by omega,fun w hw=>⟨by simp only[InR];omega,fun b14=>?_⟩⟩⟩⟩,fun hk=>⟨l,⟨by omega,q3⟩,iX lV (by simp[Gd])⟩⟩
     have hr:0<=u/\u<=n/\0<=u+1+w/\u+1+w<=n:=by omega
     generalize u+1+w=e' at*
     refine jF (X:=List Pair) [0,6,7,8,11,12,14] [6,8,165] [] [] (fun _=>True) (fun _=>[]) (fun kv=>[(14, .box b14 [.v (.string ty), .v (.int .i64 u), .v (.int .i64 e'),enc kv])]) [14] (fun _=>rfl) (by decide) ?_ ?_
     ·simp[h1,Ov,pQ,tw]
      exact fun _ _ _ _ q hq0 hq1=>⟨hq0,hq1,fun s _=>⟨[⟨⟨#[110]⟩,s⟩], .inl (.inl rfl)⟩⟩
     ·rintro kv -
      simp only[qfD,qcj]
      simp
      refine bB (X:=Bool) [0,6,7,8,11,12,14] [6,8,14,165] (fun _=>True) (fun x=>[(15,enc x)]) (fun _=>[]) ?_ ?_
      ·simp[-Bool.exists_bool]
       intro _
       refine ak (X:=Bool) [0,6,7,8,11,12,14,101] [6,8,14,165] l.length (fun _ _=>True) (fun x=>[(15,enc x)]) (fun _=>[]) false (by simp) (by simp) (by omega) (by simp) (by simp) trivial (by simp) (by simp) ?_ ?_
       ·rintro j cr hj -
        obtain⟨x,hx⟩:=dO hj
        obtain⟨_,hgx⟩:=qsT.1 hx
        simp[hj,hx,hgx, -Bool.exists_bool]
        exact fun _ _ _ _=>⟨fun _ _ _=>⟨_,(Bool.not_not _).symm⟩,fun _ _=>⟨_,(Bool.not_not _).symm⟩⟩
       ·rintro cr -
        simp[-Bool.exists_bool]
      ·rintro cr -
       simp[-Bool.exists_bool]
       refine⟨fun _=>⟨by omega,by omega,fun v2=>⟨by simp only[InR];omega,k -1,v2,l++ [⟨ty,u,e',kv⟩],⟨by omega,by simp;omega,fun r hrr=>?_⟩,⟨⟨.same _,rfl⟩, .inl (.inl (by simp))⟩,by omega⟩⟩,fun _=>⟨by simp only[InR];omega,k -1,v,l,⟨by omega,by omega,q3⟩,⟨⟨.same _,rfl⟩, .inl (.inl rfl)⟩,by omega⟩⟩
       rcases qsZ.1 hrr with hrr|hrr
       ·exact q3 r hrr
       ·simp at hrr;subst hrr;exact hr
   ·rintro rg ⟨hr1,hr2⟩
    simp[h7,h8]
    refine⟨by simp only[Tg];omega,fun rs ⟨hs1,hs2⟩=>⟨⟨at_,toks, [t],rs, [], [], []⟩,by simp[qli],by simp only[Ab];omega,fun c hc=>?_⟩⟩
    obtain⟨ns,rfl,hns,hnd⟩:=hc
    simp only at hnd
    simp[qb3]
    refine jF (X:=List Int×List B) [6,8] [6] [] [] (fun x=>x.1.length<=n/\x.2.length<=n/\∀h∈x.1,h<=n) (fun _=>[]) (fun x=>[(8, .box b8 [enc at_,enc toks,enc [t],enc rs,enc ns,enc x.1,enc x.2])]) [8] (fun _=>rfl) (by decide) ?_ ?_
    ·simp[h1,h9]
     refine fun z _ _=>⟨fun _=>⟨⟨at_,toks, [t],rs,ns, [], []⟩,by simp[qb3],by simp only[Ab];omega,fun c hc=>?_⟩,fun _=>⟨[], [],⟨by simp,by simp,by simp⟩, .inl ⟨rfl,rfl⟩⟩⟩
     obtain⟨hs,rl,rfl,g1,g2,g3⟩:=hc
     simp only at g1 g2 g3
     simp[qi6]
     exact⟨hs,rl,⟨by omega,by omega,fun h hh=>by have:=g3 h hh;omega⟩, .inl (.inl ⟨rfl,rfl⟩)⟩
    ·rintro⟨hs,rl⟩ ⟨p1,p2,p3⟩
     simp only at p1 p2 p3
     simp
     refine cV ⟨at_,toks, [t],rs,ns,hs,rl⟩ (.same _) ⟨?_,⟨hat,hto⟩,by show(toks.length:Int)<=most;omega⟩
     refine⟨⟨ht1,by omega,by show t.e=(toks.length:Int);omega⟩,by simp,by simp only;omega,by simp,by simp only;omega,by simp only;omega,by simp only;omega,by simp only;omega,by simp only;omega,fun r hr=>?_,fun m hm=>?_,hnd.2,fun h hh=>?_⟩
     ·have:=hr2 r (hs2 r hr)
      simp only
      omega
     ·have:=hnd.1 m hm
      simp only
      omega
     ·have:=p3 h hh
      simp only
      omega
end Go.Gv

namespace Go.Gv
open Go.Proofs
theorem L9:Tri Tryz.prog pD s_m_Mod.pt:=
 ae (S:=aJ []) (ag ac) Yo (fun _=>qsS rfl) (qbh)
theorem fD:Tri Tryz.prog bc s_m_Next.pt:=Xv (S:=aJ [(pD,s_m_Mod)]) (ag (aa L9 ac)) rfl Ij (by decide)
theorem qbz:Tri Tryz.prog GF s_m_New.pt:=qbw (Q8 (S:=aJ []) (ag ac) Yn (by decide) qbg)
theorem Fl:Tri Tryz.prog mh s_r04_First.pt:=
 ae (S:=aJ []) (ag ac) MS (fun _=>qsS rfl) (N7)
theorem Rh:Tri Tryz.prog wO s_r04_Next.pt:=
 ae (S:=aJ [(mh,s_r04_First)]) (ag (aa Fl ac)) OX (fun _=>qsS rfl) (QR rfl)
theorem eX:Tri Tryz.prog aW s_r04_ValidName.pt:=
 ae (S:=aJ [(mh,s_r04_First),(wO,s_r04_Next)]) (ag (aa Fl (aa Rh ac))) Em (fun _=>qsS rfl) (FJ rfl rfl)
theorem Ou:Tri Tryz.prog tU s_r01_Units.pt:=
 ae (S:=aJ []) (ag ac) MU (fun _=>qsS rfl) (N9)
theorem Ot:Tri Tryz.prog tT s_r01_Valid.pt:=
 ae (S:=aJ [(tU,s_r01_Units)]) (ag (aa Ou ac)) MT (fun _=>qsS rfl) (N8 rfl)
theorem nY:Tri Tryz.prog cS s_r04_ValidValue.pt:=
 ae (S:=aJ [(tT,s_r01_Valid)]) (ag (aa Ot ac)) CU (fun _=>qsS rfl) (DS rfl)
theorem Oq:Tri Tryz.prog tS s_r05_Parse.pt:=
 ae (S:=aJ [(cS,s_r04_ValidValue)]) (ag (aa nY ac)) MR (fun _=>qsS rfl) (N6 rfl)
theorem Rf:Tri Tryz.prog wM s_r06_sign.pt:=
 ae (S:=aJ []) (ag ac) OV (fun _=>qsS rfl) (QP)
theorem J3:Tri Tryz.prog py s_r06_compare.pt:=
 ae (S:=aJ []) (ag ac) Ic (fun _=>qsS rfl) (JL)
theorem pP:Tri Tryz.prog cR s_r06_CompareRegions.pt:=
 ae (S:=aJ [(wM,s_r06_sign),(py,s_r06_compare)]) (ag (aa Rf (aa J3 ac))) xR (fun _=>qsS rfl) (yg rfl rfl)
theorem D2:Tri Tryz.prog jQ s_r06_Attributes.pt:=
 ae (S:=aJ [(aW,s_r04_ValidName)]) (ag (aa eX ac)) CT (fun _=>qsS rfl) (DR rfl)
theorem Om:Tri Tryz.prog tP s_r06_Value.pt:=
 ae (S:=aJ [(tS,s_r05_Parse),(cS,s_r04_ValidValue)]) (ag (aa Oq (aa nY ac))) MO (fun _=>qsS rfl) (N3 rfl rfl)
theorem Fk:Tri Tryz.prog mg s_r06_pairs.pt:=
 ae (S:=aJ [(aW,s_r04_ValidName),(cS,s_r04_ValidValue)]) (ag (aa eX (aa nY ac))) MM (fun _=>qsS rfl) (N1 rfl rfl)
theorem Co:Tri Tryz.prog jP s_r06_within.pt:=
 ae (S:=aJ []) (ag ac) J6 (fun _=>qsS rfl) (LG)
theorem Rg:Tri Tryz.prog wN s_r06_bare.pt:=
 ae (S:=aJ []) (ag ac) OW (fun _=>qsS rfl) (QQ)
theorem L6:Tri Tryz.prog rh s_r06_TextAt.pt:=
 ae (S:=aJ []) (ag ac) J9 (fun _=>qsS rfl) (LJ)
theorem Hg:Tri Tryz.prog nh s_r06_FindText.pt:=
 ae (S:=aJ []) (ag ac) F3 (fun _=>qsS rfl) (GR)
theorem yr:Tri Tryz.prog fp s_r06_sameAttributes.pt:=
 ae (S:=aJ []) (ag ac) xQ (fun _=>qsS rfl) (yf)
theorem L5:Tri Tryz.prog rf s_r06_cyclic.pt:=
 ae (S:=aJ []) (ag ac) J8 (fun _=>qsS rfl) (LI)
theorem L4:Tri Tryz.prog re s_r06_tokens.pt:=
 ae (S:=aJ [(tP,s_r06_Value)]) (ag (aa Om ac)) J7 (fun _=>qsS rfl) (LH rfl)
theorem Ok:Tri Tryz.prog tN s_r06_texts.pt:=
 ae (S:=aJ [(aW,s_r04_ValidName),(mg,s_r06_pairs)]) (ag (aa eX (aa Fk ac))) ML (fun _=>qsS rfl) (N0 rfl rfl)
theorem J2:Tri Tryz.prog pw s_r06_regions.pt:=
 ae (S:=aJ [(aW,s_r04_ValidName),(mg,s_r06_pairs),(jP,s_r06_within),(cR,s_r06_CompareRegions)]) (ag (aa eX (aa Fk (aa Co (aa pP ac))))) Ib (fun _=>qsS rfl) (JK rfl rfl rfl rfl)
theorem Oo:Tri Tryz.prog tR s_r06_Nodes.pt:=
 ae (S:=aJ [(aW,s_r04_ValidName),(jP,s_r06_within)]) (ag (aa eX (aa Co ac))) MQ (fun _=>qsS rfl) (N5 rfl rfl)
theorem Ol:Tri Tryz.prog tO s_r06_heads.pt:=
 ae (S:=aJ [(aW,s_r04_ValidName),(wN,s_r06_bare),(rh,s_r06_TextAt),(rf,s_r06_cyclic)]) (ag (aa eX (aa Rg (aa L6 (aa L5 ac))))) MN (fun _=>qsS rfl) (N2 rfl rfl rfl rfl)
theorem He:Tri Tryz.prog ng s_r06_Validate.pt:=
 ae (S:=aJ [(jQ,s_r06_Attributes),(re,s_r06_tokens),(tN,s_r06_texts),(pw,s_r06_regions),(tR,s_r06_Nodes),(tO,s_r06_heads)]) (ag (aa D2 (aa L4 (aa Ok (aa J2 (aa Oo (aa Ol ac))))))) F2 (fun _=>qsS rfl) (GQ rfl rfl rfl rfl rfl rfl)
theorem On:Tri Tryz.prog tQ s_r06_Valid.pt:=
 ae (S:=aJ [(ng,s_r06_Validate)]) (ag (aa He ac)) MP (fun _=>qsS rfl) (N4 rfl)
theorem Cp:Tri Tryz.prog iO s_r06_SortRegions.pt:=
 ae (S:=aJ [(cR,s_r06_CompareRegions)]) (ag (aa pP ac)) Bb (fun _=>qsS rfl) (BY rfl)
theorem Hd:Tri Tryz.prog nf s_r06_allHeads.pt:=
 ae (S:=aJ []) (ag ac) F1 (fun _=>qsS rfl) (GP)
theorem L7:Tri Tryz.prog ri s_r06_Concat.pt:=
 ae (S:=aJ [(tQ,s_r06_Valid),(fp,s_r06_sameAttributes),(nh,s_r06_FindText),(nf,s_r06_allHeads)]) (ag (aa On (aa yr (aa Hg (aa Hd ac))))) Ka (fun _=>qsS rfl) (LK rfl rfl rfl rfl)
theorem XC:Tri Tryz.prog Dp s_m_word.pt:=
 ae (S:=aJ []) (ag ac) Vx (fun _=>qsS rfl) (Xh)
theorem qby:Tri Tryz.prog GE s_m_tag.pt:=
 ae (S:=aJ []) (ag ac) Ym (fun _=>qsS rfl) (qbf)
theorem L8:Tri Tryz.prog rq s_m_features.pt:=
 ae (S:=aJ []) (ag ac) Kj (fun _=>qsS rfl) (LP)
theorem XD:Tri Tryz.prog nk s_m_Type.pt:=
 ae (S:=aJ [(pD,s_m_Mod)]) (ag (aa L9 ac)) KY (fun _=>qsS rfl) (Xi rfl)
theorem Hj:Tri Tryz.prog np s_m_Attributes.pt:=
 ae (S:=aJ []) (ag ac) Ga (fun _=>qsS rfl) (GX)
theorem Hh:Tri Tryz.prog nl s_m_nodes.pt:=
 Fi (S:=aJ [(bc,s_m_Next)]) (ag (aa fD ac)) F7 (by decide) (UR rfl)
theorem Hi:Tri Tryz.prog nn s_m_heads.pt:=
 Fi (S:=aJ [(bc,s_m_Next)]) (ag (aa fD ac)) F9 (by decide) (US rfl)
theorem Cq:Tri Tryz.prog iR s_m_Document.pt:=
 ae (S:=aJ [(bc,s_m_Next),(np,s_m_Attributes),(Dp,s_m_word),(GE,s_m_tag),(rq,s_m_features),(nk,s_m_Type),(iO,s_r06_SortRegions),(nl,s_m_nodes),(nn,s_m_heads)]) (ag (aa fD (aa Hj (aa XC (aa qby (aa L8 (aa XD (aa Cp (aa Hh (aa Hi ac)))))))))) Bh (fun _=>qsS rfl) (LR rfl rfl rfl rfl rfl rfl rfl rfl rfl)
theorem FV:Tri Tryz.prog lc s_m_Corpus.pt:=
 ae (S:=aJ [(bc,s_m_Next),(iR,s_m_Document),(ri,s_r06_Concat)]) (ag (aa fD (aa Cq (aa L7 ac)))) Ev (fun _=>qsS rfl) (QU rfl rfl rfl)
end Go.Gv
