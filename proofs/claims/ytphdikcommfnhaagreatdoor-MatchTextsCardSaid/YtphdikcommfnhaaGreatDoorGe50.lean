/- A part of the framework and of the walks: W82 V73 W204 C77 W205 Asm27 Fr Fr2 Fr3 V32. -/
import Derived.WalkKit
import Derived.ProofKit
import Derived.OpenShut
import Derived.ShutString
import Derived.ChangeOld
import Derived.Below
import Derived.Test.YtphdikcommfnhaaGreatDoorGe49
import Derived.Test.YtphdikcommfnhaaGreatDoorGe48
import Derived.Test.YtphdikcommfnhaaGreatDoorGe39
import Derived.Test.YtphdikcommfnhaaGreatDoorGe20
import Derived.Test.YtphdikcommfnhaaGreatDoorGe21
import Derived.Test.YtphdikcommfnhaaGreatDoorGe19
set_option linter.unusedSimpArgs false
set_option linter.unusedVariables false
set_option linter.unusedSectionVars false
set_option maxRecDepth 100000
set_option maxHeartbeats 0

namespace Go.Gv
open Cod (enc dec)
variable {S S0:Nat->Spc}
def Vo(x:List Int×Int×List B)(y:Glob):Prop:=GG x.2.2 x.2.1.toNat y
def qxt(l:List B)(g:Glob):Prop:=g=GlobE\/GG l 2 g
theorem quZ{i:Nat}{a:B}(h:[(⟨#[97]⟩:B),⟨#[98,124,99]⟩,⟨#[46]⟩][i]? =some a):a∈XK:=bj h
theorem quY{i:Nat}{a:B}(h:[(⟨#[83]⟩:B),⟨#[78,80]⟩,⟨#[86,80]⟩][i]? =some a):a∈XI:=bj h
theorem quX{i:Nat}{a:B}(h:[(⟨#[111,98,106]⟩:B),⟨#[100,101,116]⟩,⟨#[]⟩][i]? =some a):a∈Th:=bj h
abbrev yL(n:Nat):Spc:=aI (aT (a2 Int (List B))) (Lh n) (enc (X:=Glob)) Vo
theorem Hy(n:Nat)(h1:S ca=s_m_Next)(h2:S qV=wC)(h3:S ez=yL n):aq jP jp S (aT (a2 Int (List B))) (Lh (n+1)) (enc (X:=Glob)) Vo:=by
 rintro⟨L,deep,lb⟩ ⟨hn,hd0,hd1,hlb0,hlb⟩
 simp only at hn hd0 hd1 hlb0 hlb
 simp[jP,jp,h1]
 intro b6 k0 hk0 hk1
 refine aR (X:=Int) [0,1,2,6] [6] (fun k=>0<=k/\k < 13/\(deep < 1->k < 10)) (fun k=>[(7,enc k)]) (fun _=>[]) ?_ ?_
 ·simp
  have:k0.tmod 10=k0 % 10:=Int.tmod_eq_emod_of_nonneg hk0
  rw[this]
  omega
 rintro k ⟨q0,q1,q2⟩
 simp[h1]
 refine fun _=>⟨by omega,fun i hi=>⟨by omega,by omega,fun a ha _=>⟨by omega,fun j hj=>⟨by omega,by omega,fun c hc=>?_⟩⟩⟩⟩
 refine aR (X:=Unit) [0,1,2,6,7] [6] (fun _=>11<=k) (fun _=>[]) (fun _=>[]) ?_ ?_
 ·have hrec:1<=deep->Lh n (L,deep -1,lb):=fun h=>⟨by show(deep -1).toNat < n;omega,by show -10<=deep -1;omega,by show deep -1<=100;omega,hlb0,hlb⟩
  have ma:a∈lb:=bj ha
  have mc:c∈lb:=bj hc
  have hdn:1<=deep->deep.toNat=(deep -1).toNat+1:=fun h=>by omega
  simp[h1,h2,h3,MD,QD,lm,qs, -Bool.forall_bool]
  refine⟨fun _=>ic [] [] (.nil _) (.nil _) (.bound _ a ma),fun _=>⟨fun _ y y0 y1=>⟨y0,y1,fun v hv z _ _=>ic [] [] (.nil _) (.nil _) (.val _ a v _ ma (quZ hv))⟩,fun _=>⟨fun _ y y0 y1=>⟨y0,y1,fun g hg=>ic [] [] (.nil _) (.nil _) (.same _ a c g ma mc (qg9 hg))⟩,fun _=>⟨fun _ y y0 y1=>⟨by simp only[InR];omega,fun z z0 z1=>⟨by simp only[InR];omega,ic [] [] (.nil _) (.nil _) (.dist _ a c _ _ ma mc (by omega) (by omega) (by omega) (by omega))⟩⟩,fun _=>⟨fun _ y y0 y1=>⟨trivial,fun t ht=>ic [] [] (.nil _) (.nil _) (.reg _ a c t ma mc ht)⟩,fun _=>⟨fun _=>ic [] [] (.nil _) (.nil _) (.head _ 6 a c (.inl rfl) ma mc),fun _=>⟨fun _=>ic [] [] (.nil _) (.nil _) (.head _ 7 a c (.inr rfl) ma mc),fun _=>⟨fun _ b11 y y0 y1=>?_,fun _=>⟨fun _ y y0 y1=>⟨y0,y1,fun t ht=>ic [] [] (.nil _) (.nil _) (.node _ a c t ma mc (quY ht))⟩,fun _=>⟨fun _ y y0 y1 z z0 z1=>⟨by simp only[InR];omega,ic [] [] (.nil _) (.nil _) (.depth _ a _ _ ma (by omega) (by omega) (by omega) (by omega))⟩,fun _=>⟨fun hk10=>⟨by simp only[InR];omega,hrec (by omega),fun g=>?_⟩,fun _=>by omega⟩⟩⟩⟩⟩⟩⟩⟩⟩⟩⟩
  ·refine mD (X:=Int×Value×List B) [0,6,11] [6] [] [] [] [] (fun x=>(0<=x.1/\x.1+x.2.2.length<=2)/\∀z∈x.2.2,z∈Th) (fun x=>[(12,enc x.1)]) (fun x=>[(11, .box b11 [.v (.int .i64 8), .v (.string a), .v (.string c), .v (.string ⟨#[]⟩), .v (.string ⟨#[]⟩), .v (.string ⟨#[]⟩), .v (.bool false), .v (.int .i64 0), .v (.int .i64 0), .own 111 x.2.1, .v (.slice none 0 0)]),(111, .row x.2.1 au 1 (x.2.2.map enc))]) (fun x=>x.1.toNat) (y, .slice none 0 0, []) [11,111] (fun _=>rfl) (by decide) (by decide) ?_ ?_ ?_ ?_
   ·exact⟨⟨y0,by simp;omega⟩,by simp⟩
   ·simp
   ·simp[isNilRow]
    exact .nilown 111
   ·rintro⟨i,v,l⟩ ⟨⟨e1,e2⟩,e3⟩
    simp only at e1 e2 e3
    simp[h1,QD,lm,qs]
    exact⟨fun hi z z0 z1=>⟨z0,z1,fun w hw=>⟨by omega,by omega,fun v=>⟨by simp only[InR];omega,i -1,v,l++ [w],⟨⟨by omega,by simp;omega⟩,fun z hz=>(qxE.1 hz).elim (e3 z) fun h=>by simp at h;subst h;exact quX hw⟩,⟨rfl, .inl (.inl rfl), .inl (.inl (by simp))⟩,by omega⟩⟩⟩,fun hi=>ic l [] (gl au (by simp)) (.nil _) (.path _ a c l ma mc (by omega) e3)⟩
  ·exact fun hg=>ic [] [g] (.nil _) (by simp) (by show GG lb deep.toNat _;rw[hdn (by omega)];exact .not _ _ hg)
 ·rintro -hk
  have hrec:Lh n (L,deep -1,lb):=⟨by show(deep -1).toNat < n;omega,by show -10<=deep -1;omega,by show deep -1<=100;omega,hlb0,hlb⟩
  have hdn:deep.toNat=(deep -1).toNat+1:=by omega
  simp[h3,hrec]
  exact⟨by simp only[InR];omega,by simp only[InR];omega,by simp only[InR];omega,fun y hy=>⟨by simp only[InR];omega,fun z hz=>ic [] [y,z] (.nil _) (by simp) (by show GG lb deep.toNat _;rw[hdn];exact .two _ _ _ _ (by omega) hy hz)⟩⟩
abbrev wD:Spc:=aI (aT (a2 Int (List B))) (fun x=>∃n,Lh n x) (enc (X:=Glob)) Vo
abbrev G2:Spc:=aI (aT a0) bK (enc (X:=sD)) (fun _ y=>GF y)
theorem Qj(h1:S ca=s_m_Next)(h2:S qV=wC):aq qh pw S (aT a0) bK (enc (X:=sD)) (fun _ y=>GF y):=by
 rintro⟨L,⟨⟩⟩ -
 simp[qh,pw,h1,h2]
 refine fun b y y0 y1=>⟨by simp only[InR];omega,fun z z0 z1 u u0 u1=>⟨trivial,fun t ht=>?_⟩⟩
 exact cp (⟨1+y,decide (z=2),t⟩:sD) (by simp) ⟨by show 1+y=1\/1+y=2\/1+y=3;omega,ht⟩
def Le(x:List Int×Int)(q:Qry):Prop:=GQ x.2.toNat q
abbrev Jp:Spc:=aI (aT (a1 Int)) (fun x=>0<=x.2/\x.2<=5) (enc (X:=Qry)) Le
theorem TA(h1:S ca=s_m_Next)(h2:S fZ=BU)(h3:S pQ=s_Bound2)(h4:S AL=Jo)(h5:S ez=wD)(h6:S rG=G2):
 aq rY rB S (aT (a1 Int)) (fun x=>0<=x.2/\x.2<=5) (enc (X:=Qry)) Le:=by
 rintro⟨L,deep⟩ ⟨hd0,hd1⟩
 simp only at hd0 hd1
 simp[rY,rB,h1]
 intro b4
 refine aR (X:=List B) [0,1,4] [4] (fun l=>qet l/\l.length<=2) (fun l=>[(5,enc l)]) (fun _=>[]) ?_ ?_
 ·simp[h1]
  exact fun _ _ _=>⟨fun _=>⟨[qkM,qlU],⟨fun l hl=>by simpa using hl,by simp⟩,by simp[qkM,qlU]⟩,fun _ l hl=>by simp at hl⟩
 rintro lb ⟨hlb,hll⟩
 simp[h1,h2]
 refine⟨⟨by omega,by omega,by omega⟩,fun y hy b=>?_⟩
 have hw:WP lb deep.toNat y:=hy.1.1
 have hpd:PD deep.toNat y:=hy.1.2
 have hnum:jg y<=1000000:=by
  have:=(Vy _ y hw (by omega)).2.2
  have h2:2^ (deep.toNat+1)<=64:=Nat.pow_le_pow_right (n:=2) (by omega) (show deep.toNat+1<=6 by omega)
  omega
 have hB:qii y []:=by show 0+jg y<=_;omega
 have hbd:∃n,PD n y:=⟨_,hpd⟩
 simp[h3,hB]
 refine .inl fun l hl=>?_
 have hlq:l=iw y []:=hl
 have hlm:l.length<=0+jg y:=by rw[hlq];exact SW y []
 simp[h4,hbd]
 intro p hp z z0 z1 b7
 have hp:p=lE l y:=hp
 have hq:∀g fs s,(g=GlobE\/GG l 2 g)->(fs.length<=1/\∀f∈fs,GF f)->(0<=s/\s < 4)->Le (L,deep) ⟨p,g,fs,s⟩:=by
  intro g fs s hg hfs hs
  have hbl:iw p []=l:=by rw[hp,qdG,<-hlq]
  refine⟨⟨lb,hlb,by show WP lb deep.toNat p;rw[hp];exact qeH _ _ hw⟩,?_,by show g=GlobE\/GG (iw p []) 2 g;rw[hbl];exact hg,hfs,hs⟩
  show ∀y∈aM p,GC (iw p []) 1 y.cond
  rw[hbl,hp,RM]
  intro x hx
  obtain⟨u,hu,rfl⟩:=qxL.1 hx
  rw[ra]
  exact qj6 (hy.2 u hu)
 refine gy (X:=Glob) [0,4] [4] [] [] (qxt l) (fun _=>[(7, .bptr 7 b7 0)]) (fun g=>[(7, .box b7 [.v (.int .i64 p.op), .v (.int .i64 p.cond.op), .v (.string p.cond.name), .v (.string p.cond.arg), .v (.string p.cond.val), .v (.string p.cond.lab), .v (.bool p.cond.fold),enc p.cond.kids, .v (.string p.lab), .v (.string p.reg), .v (.int .i64 p.mn), .v (.int .i64 p.mx),enc p.kids, .v (.int .i64 g.op), .v (.string g.a), .v (.string g.b), .v (.string g.name), .v (.string g.arg), .v (.string g.val), .v (.bool g.fold), .v (.int .i64 g.mn), .v (.int .i64 g.mx),enc g.args,enc g.kids, .v (.slice none 0 0), .v (.int .i64 z)])]) [7] (fun _=>rfl) (by decide) ?_ ?_
 ·simp[h1,h5, -Bool.forall_bool]
  refine fun _=>⟨fun hl0 u u0 u1=>⟨fun _=>⟨⟨3,by show(2:Int).toNat < 3;decide,by show -10<=(2:Int);decide,by show(2:Int)<=100;decide,hl0,by show l.length<=1000000;omega⟩,fun g hg=>⟨g, .inr hg, .inl (.inl ⟨rfl,rfl,rfl,rfl,rfl,rfl,rfl,rfl,rfl,rfl,rfl⟩)⟩⟩,fun _=>⟨⟨0,⟨#[]⟩,⟨#[]⟩,⟨#[]⟩,⟨#[]⟩,⟨#[]⟩,false,0,0, [], []⟩, .inl rfl, .inl ⟨rfl,rfl,rfl,rfl,rfl,rfl,rfl,rfl,rfl,rfl,rfl⟩⟩⟩,fun _=>⟨⟨0,⟨#[]⟩,⟨#[]⟩,⟨#[]⟩,⟨#[]⟩,⟨#[]⟩,false,0,0, [], []⟩, .inl rfl, .inl ⟨rfl,rfl,rfl,rfl,rfl,rfl,rfl,rfl,rfl,rfl,rfl⟩⟩⟩
 rintro g hg
 refine gy (X:=List sD) [4] [4] [49] [] (fun fs=>fs.length<=1/\∀f∈fs,GF f) (fun _=>[(7, .bptr 7 b7 0)]) (fun fs=>[(7, .box b7 [.v (.int .i64 p.op), .v (.int .i64 p.cond.op), .v (.string p.cond.name), .v (.string p.cond.arg), .v (.string p.cond.val), .v (.string p.cond.lab), .v (.bool p.cond.fold),enc p.cond.kids, .v (.string p.lab), .v (.string p.reg), .v (.int .i64 p.mn), .v (.int .i64 p.mx),enc p.kids, .v (.int .i64 g.op), .v (.string g.a), .v (.string g.b), .v (.string g.name), .v (.string g.arg), .v (.string g.val), .v (.bool g.fold), .v (.int .i64 g.mn), .v (.int .i64 g.mx),enc g.args,enc g.kids,enc fs, .v (.int .i64 z)])]) [7] (fun _=>rfl) (by decide) ?_ ?_
 ·simp[h1]
  intro u u0 u1
  have ut:u.tdiv 2=u/2:=Int.tdiv_eq_ediv_of_nonneg u0
  rw[ut]
  refine⟨by simp only[InR];omega,?_⟩
  refine mD (X:=Int×Value×List sD) [0,4,7] [4] [] [] [] [] (fun x=>(0<=x.1/\x.1+x.2.2.length<=1)/\∀f∈x.2.2,GF f) (fun x=>[(8,enc x.1)]) (fun x=>[(7, .box b7 [.v (.int .i64 p.op), .v (.int .i64 p.cond.op), .v (.string p.cond.name), .v (.string p.cond.arg), .v (.string p.cond.val), .v (.string p.cond.lab), .v (.bool p.cond.fold),enc p.cond.kids, .v (.string p.lab), .v (.string p.reg), .v (.int .i64 p.mn), .v (.int .i64 p.mx),enc p.kids, .v (.int .i64 g.op), .v (.string g.a), .v (.string g.b), .v (.string g.name), .v (.string g.arg), .v (.string g.val), .v (.bool g.fold), .v (.int .i64 g.mn), .v (.int .i64 g.mx),enc g.args,enc g.kids, .own 49 x.2.1, .v (.int .i64 z)]),(49, .row x.2.1 MA 3 (x.2.2.map enc))]) (fun x=>x.1.toNat) (u/2, .slice none 0 0, []) [7,49] (fun _=>rfl) (by decide) (by decide) ?_ ?_ ?_ ?_
  ·exact⟨⟨by show 0<=u/2;omega,by simp;omega⟩,by simp⟩
  ·simp
  ·simp[isNilRow]
   exact .nilown 49
  ·rintro⟨i,v,fs⟩ ⟨⟨e1,e2⟩,e3⟩
   simp only at e1 e2 e3
   simp[h6]
   refine⟨fun hi=>⟨trivial,fun y hy=>⟨by omega,by omega,fun v=>⟨by simp only[InR];omega,i -1,v,fs++ [y],⟨⟨by omega,by simp;omega⟩,fun z hz=>(qxE.1 hz).elim (e3 z) fun h=>by simp at h;subst h;exact hy⟩,⟨rfl, .inl (.inl rfl), .inl (.inl (by simp))⟩,by omega⟩⟩⟩,fun hi=>⟨fs,⟨by omega,e3⟩, .inl (gl MA (by simp[Hh]))⟩⟩
 ·rintro fs hfs
  simp
  exact cp (⟨p,g,fs,z⟩:Qry) (by simp) (hq _ _ _ hg hfs ⟨z0,z1⟩)
end Go.Gv

namespace Go.Gv
open Go.Proofs
theorem qf8{lb:List B} :∀n p,WP lb n p->∀out:List B,aS p out=iw p out:=by
 refine Iw fun n p hp ih out=>?_
 have hk:∀ks:List Pat,(∀k∈ks,k∈p.kids)->∀o:List B,ks.foldl (fun o k=>aS k o) o=ks.foldl (fun o k=>iw k o) o:=by
  intro ks
  induction ks with
  | nil=>intro _ o;rfl
  | cons k ks ihk=>
    intro h o
    obtain⟨m,_,_,hi⟩:=ih k (h k (by simp))
    rw[qyu,qyu,hi,ihk fun z hz=>h z (by simp[hz])]
 have hno:p.op≠1->p.lab=E0->aS p out=iw p out:=fun h1 h2=>by
  rw[qQ,oR,qn,if_pos h2,if_neg (fun h=>h1 h.1)]
  exact hk _ (fun _ h=>h) _
 rcases zA hp with(⟨h1,h2,h3,h4,h5,h6⟩|⟨h1,h2,h3,h4,h5,h6,h7⟩)|⟨m,rfl,(⟨h1,h2,h3,h4,h5,h6,a,b,h7,_⟩|⟨h1,h2,h3,h4,h5,a,h7,_⟩)⟩
 ·rw[qQ,oR,h6,qn]
  by_cases h:p.lab=E0
  ·rw[if_pos h,if_neg (fun x=>x.2 h)];rfl
  ·rw[if_neg h,if_pos ⟨h1,h⟩];rfl
 ·exact hno (by omega) h3
 ·exact hno (by omega) h3
 ·exact hno (by omega) h3
theorem ZQ{out:List B}{x y:B}(h:y∈out):y∈qn out x:=by
 unfold qn BP
 split
 ·exact h
 ·split
  ·exact h
  ·simp[h]
theorem ZP{out:List B}{x:B}(h:x≠E0):x∈qn out x:=by
 unfold qn BP
 rw[if_neg h]
 split
 ·assumption
 ·simp
theorem qhe{out:List B}{x:B}(h:out.Nodup):(qn out x).Nodup:=by
 unfold qn BP
 split
 ·exact h
 ·split
  ·exact h
  ·rename_i hx
   rw[qyQ]
   exact⟨h,by simp,fun a ha b hb=>by simp at hb;subst hb;exact fun e=>hx (e ▸ha)⟩
theorem Za(p:Pat):∀ (out:List B) (y:B),y∈out->y∈aS p out:=by
 induction p using fL with|_ p ih=>?_
 intro out y h
 rw[qQ]
 have:∀ks:List Pat,(∀k∈ks,k∈p.kids)->∀o:List B,y∈o->y∈ks.foldl (fun o k=>aS k o) o:=by
  intro ks
  induction ks with
  | nil=>intro _ o h;exact h
  | cons k ks ihk=>intro hk o h;exact ihk (fun z hz=>hk z (by simp[hz])) _ (ih k (hk k (by simp)) o y h)
 exact this _ (fun _ h=>h) _ (ZQ h)
theorem qf7(p:Pat):∀ (out:List B),out.Nodup->(aS p out).Nodup:=by
 induction p using fL with|_ p ih=>?_
 intro out h
 rw[qQ]
 have:∀ks:List Pat,(∀k∈ks,k∈p.kids)->∀o:List B,o.Nodup->(ks.foldl (fun o k=>aS k o) o).Nodup:=by
  intro ks
  induction ks with
  | nil=>intro _ o h;exact h
  | cons k ks ihk=>intro hk o h;exact ihk (fun z hz=>hk z (by simp[hz])) _ (ih k (hk k (by simp)) o h)
 exact this _ (fun _ h=>h) _ (qhe h)
theorem Y9(p:Pat):∀q∈rD p,q.lab≠E0->∀out:List B,q.lab∈aS p out:=by
 induction p using fL with|_ p ih=>?_
 intro q hq hl out
 rw[qQ]
 have hm:∀ks:List Pat,∀o:List B,q.lab∈o->q.lab∈ks.foldl (fun o k=>aS k o) o:=by
  intro ks
  induction ks with
  | nil=>intro o h;exact h
  | cons k ks ihk=>intro o h;exact ihk _ (Za k o _ h)
 cases p with
 | mk op cond lab reg mn mx ks=>
   rw[rD]at hq
   rcases qxD.1 hq with rfl|hq
   ·exact hm _ _ (ZP hl)
   ·obtain⟨k,hk,hq⟩:=uN hq
    have:∀l:List Pat,k∈l->∀o:List B,q.lab∈l.foldl (fun o k=>aS k o) o:=by
     intro l
     induction l with
     | nil=>intro h;cases h
     | cons z l ihl=>
       intro h o
       rw[qyu]
       rcases qxD.1 h with rfl|h
       ·exact hm _ _ (ih k hk q hq hl _)
       ·exact ihl h _
    exact this _ hk _
theorem WO{n:Nat}{q:Qry}(h:GQ n q):aS q.pat []=iw q.pat []/\(aS q.pat []).length<=2:=by
 obtain⟨lb,hl,hw⟩:=h.lab
 have e:=qf8 n q.pat hw []
 refine⟨e,?_⟩
 have hm:∀y∈aS q.pat [],y=qkM\/y=qlU:=fun y hy=>by
  rw[e]at hy
  rcases qg5 n q.pat hw [] y hy with h|h
  ·cases h
  ·exact hl y h
 refine M4 (f:=fun y=>if y=qkM then 0 else 1) (qf7 q.pat [] qzk) (fun y _=>by split <;> omega) fun x hx y hy=>?_
 rcases hm x hx with rfl|rfl <;> rcases hm y hy with rfl|rfl
 ·exact fun _=>rfl
 ·rw[if_pos rfl,if_neg (by decide)];exact fun h=>by cases h
 ·rw[if_neg (by decide),if_pos rfl];exact fun h=>by cases h
 ·exact fun _=>rfl
theorem qce{n:Nat}{c:Corpus}{q:Qry}(hc:qij c)(hq:GQ n q)(hn:n<=5):NE Vk c q:=by
 obtain⟨lb,hl,hw⟩:=hq.lab
 have hpat:kP aZ q.pat=true:=qeG hl qiM n q.pat hw (by omega)
 obtain⟨hlab,hl2⟩:=WO hq
 obtain⟨_,hs1,hs2⟩:=Vy n q.pat hw hn
 have h3:(3:Int) ^n<=243:=by
  rcases n with _|_|_|_|_|_|n
  all_goals first|decide|omega
 have h2:2^ (n+1)<=64:=by
  rcases n with _|_|_|_|_|_|n
  all_goals first|decide|omega
 have hpn:jg q.pat<=1000000:=by omega
 have hl3:(aS q.pat []).length<=3:=by omega
 have he:eW yQ q.pat=true/\eW uB q.pat=true:=by
  unfold kP at hpat
  simp only[qxH]at hpat
  exact⟨hpat.1.1.2,hpat.2⟩
 have hN:ll uv q.pat:=sK (KD q.pat he.1) fun q h=>(wM q).1 h
 refine⟨⟨by rw[hlab];exact hq.glob,hq.filts.2,hq.strat,hpat,by omega,hl3,hpn,hc.ok.1,fun x hx=>?_⟩,⟨hc.ok.sz,by have:=hc.few;omega,hpat,hl3,hpn,fun t ht=>?_⟩⟩
 ·have hg:=hq.cond x hx
  rw[hlab,hc.ok.1]
  exact⟨qjB hg (by omega),qjG hg⟩
 ·intro z hz
  refine⟨hN z hz,KD q.pat he.2 z hz,fun h=>fM (Y9 q.pat z hz h []),fun h1 s hs hlt=>?_⟩
  have hg:=hq.cond z (YS q.pat hN z hz h1)
  rw[<-hlab]at hg
  have hen:(FJ c (aS q.pat []) t).en<=c.toks.length:=by show min t.e (c.toks.length:Int)<=_;omega
  exact qnx (E:=⟨(FJ c (aS q.pat []) t).c,s.p,(FJ c (aS q.pat []) t).lb,NB (FJ c (aS q.pat []) t) s⟩) ⟨hc.ok,hs.1,by show s.p < (c.toks.length:Int);omega,qha _ s⟩ hg (by decide)
end Go.Gv

namespace Go.Gv
open Go.Proofs
open Cod (enc dec)
variable {S S0:Nat->Spc}
end Go.Gv

namespace Go.Gv
open Go.Proofs
def ld:CC:=gq Tryz.f10 [] { cu:=[11] } _
def kL:List aj:=[.tmp 4]
theorem BG:ak Tryz.prog tM [] ld kL 132:=fo
end Go.Gv

namespace Go.Gv
open Go.Proofs
open Cod (enc dec)
variable {S S0:Nat->Spc}
def qwO(s t:St3):Prop:=s.p<=t.p/\∀i,i < 3->t.get i=s.get i\/(s.p < t.get i/\t.get i<=t.p)
theorem qfL(r:Rn)(p:Pat){s t:St3}(h:lJ r p s t):qwO s t:=by
 refine ES (T:=qwO) (fun s=>⟨qy8 _,fun i _=> .inl rfl⟩) (fun s t u a b=>⟨by have:=a.1;have:=b.1;omega,fun i hi=>?_⟩) r p (fun q _ _ s=>?_) s t h
 ·have a1:=a.1
  have b1:=b.1
  rcases b.2 i hi with e|e
  ·rw[e]
   rcases a.2 i hi with e2|e2
   ·exact .inl e2
   ·exact .inr (by omega)
  ·exact .inr (by omega)
 ·unfold Ez
  dsimp only
  split
  ·exact⟨by show s.p<=s.p+1;omega,fun i hi=> .inl (by rcases i with _|_|i <;> rfl)⟩
  ·generalize (fW r.lb fun z=>decide (z=q.lab)).toNat=j
   rcases j with _|_|j
   all_goals
    refine⟨by show s.p<=s.p+1;omega,fun i hi=>?_⟩
    rcases i with _|_|i
    all_goals first
     | exact .inl rfl
     | exact .inr ⟨by show s.p < s.p+1;omega,by show s.p+1<=s.p+1;omega⟩
structure qoM (c:Corpus) (p:Pat) (x:Match) (t:oW):Prop where
 tx:LW c x.b=some t
 be:x.b < x.e
 en:x.e<=t.e
 wl:(gx p).1<=x.e -x.b
 wh:(gx p).2= -1\/x.e -x.b<=(gx p).2
 lb:∀b∈x.lbs,b= -1\/(x.b<=b/\b < x.e)
 r0:0<=x.b
 r1:x.e<=200
theorem qjJ{c:Corpus}{lb:List B}{p:Pat}{x:Match}(hp:kP aZ p=true)(hc:c.toks.length<=170)(h3:lb.length<=3)(h:qes c lb p x):∃t,qoM c p x t:=by
 obtain⟨h0,h1,t,ht,s,hs,h2,e1,e2⟩:=h
 have hen:(FJ c lb t).en=min t.e c.toks.length:=rfl
 have hf:=List.find?_some ht
 simp only[qxH,decide_eq_true_eq]at hf
 have hle:P2 (FJ c lb t).en (Je x.b):=⟨h0,by show x.b<=_;rw[hen];omega,fun i=>by
  have:0<=(FJ c lb t).en:=by rw[hen];omega
  rcases i with _|_|i <;> exact⟨qy8 0,this⟩⟩
 have hk:=(rE _ _ _ _ hs hle).2.1
 rw[hen]at hk
 have hw:=qgO p hp _ _ hs
 unfold WB at hw
 have e0:(Je x.b).p=x.b:=rfl
 rw[e0]at hw
 have ho:=qfL _ _ hs
 refine⟨t,ht,by omega,by omega,by rw[e1];exact hw.2.1,?_,fun b hb=>?_,h0,by omega⟩
 ·rw[e1]
  rcases hw.2.2 with h|h|h
  ·exact .inl h
  ·exact .inr h
  ·omega
 ·rw[e2]at hb
  unfold NB at hb
  obtain⟨i,hi,rfl⟩:=qxL.1 hb
  have hi:i < lb.length:=qyU.1 hi
  rcases ho.2 i (by omega)with h|h
  ·left
   rw[h]
   rcases i with _|_|i <;> rfl
  ·right
   rw[e0]at h
   omega
abbrev qmL:Spc:=aI (a2 (List Int) (List Int)) (fun _=>True) enc (fun(_:List Int×List Int) (y:Bool)=>y=true)
theorem qmi(h1:S Pk=s_m_New)(h2:S rH=s_m_Corpus)(h3:S tK=Jp)(h4:S ip=Uf Vk)(h5:S ya=s_rTextOf)(h6:S vP=MM)(h7:S vM=Wi)(h8:S iq=s_cmpM):aq ld kL S (a2 (List Int) (List Int)) (fun _=>True) enc (fun(_:List Int×List Int) (y:Bool)=>y=true):=by
 rintro⟨l,m⟩ -
 simp[ld,kL,h1,h2,h3, -Bool.forall_bool, -Bool.exists_bool]
 refine fun c hw hk hl L q hq b1 b2=>?_
 have hc:qij c:=⟨qjz hw hk,by omega⟩
 have hM:NE Vk c q:=qce hc hq (by show 3<=5;decide)
 have hl2:=(WO hq).2
 have hfew:=hM.f.few
 have hp:=hM.f.pat
 have wok:=NJ q.pat hp
 clear h1 h2 h3 hw hk hl hq
 simp[h4,hM, -Bool.forall_bool, -Bool.exists_bool]
 intro a e hQ
 rcases hQ with⟨e0,ha,hla⟩|⟨e0,e1,k,l,_,_⟩
 ·simp only at e0 ha hla
  subst e0
  have hin:∀x∈a,∃t,qoM c q.pat x t:=fun x hx=>qjJ hp hfew (by omega) ((ha.2 x).1 hx)
  simp[h7,hp,qW, -Bool.forall_bool, -Bool.exists_bool]
  intro _
  refine ai (X:=Unit) [5,7,9,10,42] [5] a.length (fun _ _=>True) (fun _=>[]) (fun _=>[]) () (by simp) (by simp) (by omega) (by simp) (by simp) trivial (by simp) (by simp) ?_ ?_
  ·rintro k ⟨⟩ hk -
   obtain⟨x,hx⟩:=bJ hk
   obtain⟨_,hgx⟩:=qxz.1 hx
   obtain⟨t,i1,i2,i3,i4,i5,i6,i7,i8⟩:=hin x (qxC hx)
   have htx:qlg c x.b=(t,true):=by unfold qlg;rw[i1]
   have hlt:0 < k->∀z,a[k -1]? =some z->vT z x < 0:=fun h0 z hz=>by
    obtain⟨hk1,hg1⟩:=qxz.1 hz
    have:=qzu.1 ha.1 (k -1) k hk1 hk (by omega)
    rw[hg1,hgx]at this
    exact this
   have hr:InR .i64 (x.e -x.b):=by simp only[InR];omega
   simp[hk,hx,hgx,h5,htx,qW, -Bool.forall_bool, -Bool.exists_bool]
   intro b12 b13
   refine aR (X:=Unit) [5,7,9,10,12,42,43,44] [5,12] (fun _=>True) (fun _=>[]) (fun _=>[]) ?_ ?_
   ·simp[hk,hx,hgx,h8, -Bool.forall_bool, -Bool.exists_bool]
    have hk1:0 < k->InR .i64 ((k:Int) -1)/\1<=(k:Int)/\(k:Int) -1 < a.length/\∀z,a[k -1]? =some z->vT z x < 0:=fun h=>⟨by simp only[InR];omega,by omega,by omega,hlt h⟩
    exact⟨fun _=>⟨fun _=>⟨hr,fun _=>⟨fun hne=>⟨hr,fun _=>hk1,i5.resolve_left hne⟩,fun _=>hk1⟩,i4⟩,i3⟩,i2⟩
   ·rintro⟨⟩ -
    simp[-Bool.forall_bool, -Bool.exists_bool]
    intro _
    refine ai (X:=Unit) [5,7,9,10,12,42,43,44,109] [5,12] x.lbs.length (fun _ _=>True) (fun _=>[]) (fun _=>[]) () (by simp) (by simp) (by omega) (by simp) (by simp) trivial (by simp) (by simp) ?_ ?_
    ·rintro j ⟨⟩ hj -
     obtain⟨y,hy⟩:=bJ hj
     obtain⟨_,hgy⟩:=qxz.1 hy
     have hb:=i6 y (qxC hy)
     simp[hj,hy,hgy, -Bool.forall_bool, -Bool.exists_bool]
     exact fun h=>⟨fun _=>(hb.resolve_left h).2,(hb.resolve_left h).1⟩
    ·rintro⟨⟩ -
     simp
  ·rintro⟨⟩ -
   simp[h6, -Bool.forall_bool, -Bool.exists_bool]
 ·simp only at e0 e1
  subst e0;subst e1
  simp[h6, -Bool.forall_bool, -Bool.exists_bool]
end Go.Gv

namespace Go.Gv
open Go.Proofs Cod
theorem qji:Tri Tryz.prog nQ (Oo).pt:=
 ae (ag ac) Mb (fun _=>qxy rfl) (qeY)
theorem qfC:Tri Tryz.prog cY (Ot).pt:=
 ae (ag (aa gz ac)) wI (fun _=>qxy rfl) (qe1 rfl)
def qoG:Nat->Spc:=Ig [(nQ,Oo),(cY,Ot)]
theorem qfG:Tri Tryz.prog ck (Wn qoG).pt:=
 ae (S:=qoG) (ag (aa qji (aa qfC ac))) jy (fun _=>qxy rfl) qe7
theorem Wq:Tri Tryz.prog aL (Ow qoG).pt:=
 ae (ag (aa qfG ac)) gu (fun _=>qxy rfl) (qe8 rfl)
theorem qjj:Tri Tryz.prog ew (Uj).pt:=
 ae (ag (aa gz ac)) Ah (fun _=>qxy rfl) (qiJ rfl)
def qr1:Nat->Spc:=Ig [(ew,Uj)]
theorem qjl:Tri Tryz.prog eV (qbl qr1).pt:=
 ae (S:=qr1) (ag (aa qjj ac)) tv (fun _=>qxy rfl) qiK
theorem qjm:Tri Tryz.prog ep (qbo qr1).pt:=
 ae (ag (aa qjl ac)) qO (fun _=>qxy rfl) (qiL rfl)
theorem qbB:Tri Tryz.prog fu (Q4).pt:=
 ae (ag (aa lC (aa dv (aa gz (aa qjm (aa B4 ac)))))) tw (fun _=>qxy rfl) (qae (S0:=qr1) rfl rfl rfl rfl rfl rfl)
theorem Re:∀n,Tri Tryz.prog dE (We n).pt
 | 0=>dj fun x h=>by have:=h.1;have:=It x.1;omega
 | n+1=>ae (ag (aa qbB (aa (Re n) ac))) uL (fun _=>qxy rfl) (qe3 n rfl rfl)
theorem qfD:Tri Tryz.prog dE (Q5).pt:=iD (fun n=>Re n) (lK (fun x h=>⟨lX x.1,qxI _,h⟩))
theorem qjg:Tri Tryz.prog nP (VT).pt:=
 ae (ag ac) BY (fun _=>qxy rfl) (LC)
theorem Wp:∀n,Tri Tryz.prog il (QV n).pt
 | 0=>dj fun x h=>by have:=h.1;have:=It x.1;omega
 | n+1=>ae (ag (aa (Wp n) ac)) FQ (fun _=>qxy rfl) (Fo n rfl)
theorem qjh:Tri Tryz.prog il (QW).pt:=iD (fun n=>Wp n) (lK (fun x h=>h))
theorem qjk:Tri Tryz.prog dN (Wh).pt:=
 ae (ag ac) Mc (fun _=>qxy rfl) (LH)
def qr0(n:Nat):Nat->Spc:=Ig [(fb,Ju n)]
theorem Rf:∀n,Tri Tryz.prog lu (Q9 n).pt
 | 0=>dj fun x h=>by have:=h.1.1;have:=It x.1;omega
 | n+1=>
   have h1:Tri Tryz.prog fb (Ju n).pt:=ae (ag (aa (Rf n) ac)) FS (fun _=>qxy rfl) (Hv n rfl)
   have h2:Tri Tryz.prog dV (qbm (qr0 n)).pt:=ae (S:=qr0 n) (ag (aa h1 ac)) pD (fun _=>qxy rfl) qG
   have h3:Tri Tryz.prog cX (qbp (qr0 n)).pt:=ae (ag (aa h2 ac)) mR (fun _=>qxy rfl) (mS rfl)
   ae (ag (aa h3 (aa qjk ac))) JW (fun _=>qxy rfl) (LG (S0:=qr0 n) n rfl rfl rfl)
theorem qfE:Tri Tryz.prog lu (Ra).pt:=iD (fun n=>Rf n) (lK (fun x h=>by obtain⟨⟨n,h1⟩,h2⟩:=h;exact⟨n,h1,h2⟩))
theorem qfF:Tri Tryz.prog lw (Rb).pt:=
 ae (ag (aa qjg (aa qjh (aa qfE ac)))) Ai (fun _=>qxy rfl) (IK rfl rfl rfl)
theorem qfB:Tri Tryz.prog dX (Wc).pt:=
 ae (ag (aa vj (aa qr (aa DO (aa ji (aa Wq ac)))))) pd (fun _=>qxy rfl) (qe0 (N:=ZR) (N2:=qoG) rfl rfl rfl rfl rfl rfl rfl rfl)
theorem Uu:Tri Tryz.prog kq (Om Vk).pt:=
 ae (ag (aa qfB (aa ji (aa zI (aa qZ (aa Wq (aa qfF (aa qfD ac)))))))) uM (fun _=>qxy rfl) (qeP (N:=qoG) rfl rfl rfl rfl rfl rfl rfl rfl)
theorem Yv:Tri Tryz.prog ip (Uf Vk).pt:=
 ae (ag (aa Uu (aa DP ac))) wJ (fun _=>qxy rfl) (qht rfl rfl)
theorem DR:Tri Tryz.prog fZ (BU).pt:=
 iD (fun n=>wU n) (lK (fun x h=>⟨x.2.1.toNat+1,Nat.lt_succ_self _,h⟩))
theorem G4:∀n,Tri Tryz.prog qU (D3 n).pt
 | 0=>dj fun x h=>absurd h.1 (Nat.not_lt_zero _)
 | n+1=>ae (ag (aa (G4 n) ac)) OT (fun _=>qxy rfl) (NX n rfl)
theorem Qr:Tri Tryz.prog qU (BT).pt:=
 iD (fun n=>G4 n) (lK (fun x h=>by obtain⟨n,h⟩:=h;exact⟨n+1,Nat.succ_pos _,h⟩))
theorem Rd:∀n,Tri Tryz.prog AL (MK n).pt
 | 0=>dj fun x h=>absurd h.1 (Nat.not_lt_zero _)
 | n+1=>ae (ag (aa Qr (aa (Rd n) ac))) YG (fun _=>qxy rfl) (XY n rfl rfl)
theorem qan:Tri Tryz.prog AL (Jo).pt:=
 iD (fun n=>Rd n) (lK (fun x h=>by obtain⟨n,h⟩:=h;exact⟨n+1,Nat.succ_pos _,h⟩))
theorem MW:∀n,Tri Tryz.prog pQ (RR n).pt
 | 0=>sS fun d ds H K ⟨id,v,l,a,x,h1,h2,h3,h4,h5⟩=>qju h4.1
 | n+1=>Cj (ag (aa (MW n) ac)) J1 (by decide) (Qk n rfl)
theorem GT:Tri Tryz.prog pQ i_BoundA2.pt:=iD (fun n=>MW n) fun d ds H K ⟨id,v,l,a,x,h1,h2,h3,h4,h5⟩=>⟨eD x,id,v,l,a,x,h1,h2,h3,⟨qxI _,h4⟩,h5⟩
theorem Yc:Tri Tryz.prog pQ s_Bound2.pt:=N9 (Bd (ag (aa GT ac)) J1 (fun _=>qxy rfl) (Ql rfl)) GT
theorem sj:∀n,Tri Tryz.prog ez (yL n).pt
 | 0=>dj fun x h=>absurd h.1 (Nat.not_lt_zero _)
 | n+1=>ae (ag (aa cU (aa EZ (aa (sj n) ac)))) Al (fun _=>qxy rfl) (Hy n rfl rfl rfl)
theorem BA:Tri Tryz.prog ez (wD).pt:=
 iD (fun n=>sj n) (lK (fun x h=>h))
theorem HF:Tri Tryz.prog rG (G2).pt:=
 ae (ag (aa cU (aa EZ ac))) FX (fun _=>qxy rfl) (Qj rfl rfl)
theorem IU:Tri Tryz.prog tK (Jp).pt:=
 ae (ag (aa cU (aa DR (aa Yc (aa qan (aa BA (aa HF ac))))))) HT (fun _=>qxy rfl) (TA rfl rfl rfl rfl rfl rfl)
theorem TY:Tri Tryz.prog tM (qmL).pt:=
 ae (ag (aa qfk (aa HG (aa IU (aa Yv (aa N5 (aa LV (aa LU (aa yX ac))))))))) BG (fun _=>qxy rfl) (qmi rfl rfl rfl rfl rfl rfl rfl rfl)
end Go.Gv

namespace Go.Gv
open Go.ChangeShapes Go.WideShapes Go.ChangeAt Go.RowKit
section
variable {H:Type}{ec:TypeId×Value->H}{P:Program}{w:World}{base:Nat}{spare:Nat->Bool}{held:Bool}{tp I:Nat->Prop}
def OpR(tp I:Nat->Prop)(w:World)(cs:List Value)(d:D):Prop:=cs.length=d.cells.length/\∀ (k:Nat) (y:Value) (c:D),cs[k]? =some y->d.cells[k]? =some c->y.oneCell'=true/\R tp I w y c
theorem OpR.one{y:Value}{d:D}(h:OpR tp I w [y] d)(hd:d.cells=[d]):R tp I w y d:=(h.2 0 y d rfl (by rw[hd];rfl)).2
theorem qbM{t:TypeId}{fuel:Nat}{cs:List Value}{x:DataW H×List MemPlace}(ht:P.underlying t=some (.int .i64))(h:DataW.trod ec P w base spare held fuel t cs=some x):∃n:Int,OpR tp I w cs (Cod.enc n):=by
 obtain⟨n,rfl,_,_⟩:=DataW.trod_int ht h
 refine⟨n,rfl,fun k y c h1 h2=>?_⟩
 cases k with
 | zero=>cases h1;cases h2;exact⟨rfl, .v _ rfl (fun s h=>by cases h)⟩
 | succ k=>simp at h1
theorem Rh{Y:Type}[Cod Y]{t e:TypeId}(ht:P.underlying t=some (.slice e))(hc:P.cellsOf e=Cod.wd Y)(h0:0 < Cod.wd Y)
 (hel:∀ (n:Nat) (cs:List Value) (x:DataW H×List MemPlace),DataW.trod ec P w base spare held n e cs=some x->∃y:Y,OpR tp I w cs (Cod.enc y)) (hI:∀b,b < w.heap.size->I b)
 {fuel:Nat} {cs:List Value} {x:DataW H×List MemPlace} (h:DataW.trod ec P w base spare held fuel t cs=some x) (h1w:Cod.wd Y=1:=by rfl):∃l:List Y,OpR tp I w cs (Cod.enc l):=by
 have one:∀ (v:Value) (l:List Y),v.oneCell'=true->R tp I w v (.list (Cod.wd Y) (l.map Cod.enc))->OpR tp I w [v] (Cod.enc l):=fun v l h1 h2=>⟨rfl,fun k y c e1 e2=>by
  cases k with
  | zero=>cases e1;cases e2;exact⟨h1,h2⟩
  | succ k=>simp at e1⟩
 rcases DataW.trod_slice ht h with⟨rfl,_⟩|⟨a,len,cap,elems,rest,n,_,rfl,_,_,hl,hm,hlen,hel',_⟩
 ·exact⟨[],one _ [] rfl (.nolist none 0 _)⟩
 ·by_cases hz:len=0
  ·subst hz
   exact⟨[],one _ [] rfl (.nolist (some a) cap _)⟩
  ·have each:∀i:_root_.Fin len,∃p:List Value×Y,w.cells? base (a.add (i*P.cellsOf e)) (P.cellsOf e)=some p.1/\OpR tp I w p.1 (Cod.enc p.2):=fun i=>by
    have h1:=hel' i i.2
    rw[qxA (by omega)]at h1
    obtain⟨cs',h2,h3⟩:=qxx.1 h1
    obtain⟨y,hy⟩:=hel n cs' _ h3
    exact⟨(cs',y),h2,hy⟩
   obtain⟨g,hg⟩:=qzR each
   obtain⟨b,off,spot⟩:=a
   have cellAt:∀ (i:_root_.Fin len) (j:Nat),j < Cod.wd Y->∃v,(g i).1[j]? =some v/\w.cell? ((Addr.add ⟨b,off,spot⟩ (i*Cod.wd Y)).add j)=some v:=fun i j hj=>by
    have h1:=World.cells?_some (hg i).1
    have h2:=h1.2.2 j (by rw[hc];exact hj)
    have h3:j < (g i).1.length:=by rw[h1.2.1,hc];exact hj
    refine⟨(g i).1[j],qxA h3,?_⟩
    rw[hc]at h2
    rw[h2,qxA h3]
   have hs:spot=none:=by
    obtain⟨v,_,h2⟩:=cellAt ⟨0,by omega⟩ 0 h0
    have:=World.cell?_spot h2
    simpa [Addr.add]using this
   subst hs
   have hadd:∀ (o n:Nat),Addr.add ⟨b,o,none⟩ n=⟨b,o+n,none⟩:=fun o n=>by
    unfold Addr.add
    split
    ·rename_i e;subst e;rfl
    ·rfl
   have cellAt':∀ (i:_root_.Fin len) (j:Nat),j < Cod.wd Y->∃v,(g i).1[j]? =some v/\w.cell? ⟨b,off+ (i*Cod.wd Y+j),none⟩=some v:=fun i j hj=>by
    obtain⟨v,h1,h2⟩:=cellAt i j hj
    refine⟨v,h1,?_⟩
    rw[hadd,hadd]at h2
    rw[<-qyS]
    exact h2
   have hb:b < w.heap.size:=by
    obtain⟨v,_,h2⟩:=cellAt' ⟨0,by omega⟩ 0 h0
    unfold World.cell? at h2
    by_cases hlt:b < w.heap.size
    ·exact hlt
    ·simp only[qyZ (Nat.le_of_not_lt hlt)]at h2
     cases h2
   let es:List Y:=List.ofFn fun i=>(g i).2
   have hesl:es.length=len:=by simp[es]
   have hesi:∀i:_root_.Fin len,(es.map Cod.enc)[(i:Nat)]? =some (Cod.enc (g i).2):=fun i=>by
    rw[qxQ]
    have:es[(i:Nat)]? =some (g i).2:=by simp[es]
    rw[this];rfl
   have hw:∀d∈es.map Cod.enc,d.kn=true/\d.cells.length=Cod.wd Y:=fun d hd=>by
    obtain⟨y,_,rfl⟩:=qxL.1 hd
    exact⟨Cod.kn y,Cod.wid y⟩
   have flatAt:∀ (k:Nat) (c:D),(aW (es.map Cod.enc))[k]? =some c->∃v,w.cell? ⟨b,off+k,none⟩=some v/\v.oneCell'=true/\R tp I w v c:=fun k c hk=>by
    have hkl:=(qxz.1 hk).1
    rw[aP (fun d hd=>(hw d hd).2),qym,hesl]at hkl
    have hdm:k=(k/Cod.wd Y) *Cod.wd Y+k % Cod.wd Y:=by have:=qyP k (Cod.wd Y);rw[qyK]at this;omega
    have hmod:k % Cod.wd Y < Cod.wd Y:=qyX _ h0
    have hq:k/Cod.wd Y < len:=qzJ (by rw[qyK];exact hkl)
    have g1:=dr (es:=es.map Cod.enc) (fun d hd=>(hw d hd).2) (i:=k/Cod.wd Y) hmod
    rw[<-hdm,hk,hesi ⟨k/Cod.wd Y,hq⟩]at g1
    simp only[qxR]at g1
    obtain⟨v,h1,h2⟩:=cellAt' ⟨k/Cod.wd Y,hq⟩ (k % Cod.wd Y) hmod
    simp only at h2
    rw[<-hdm]at h2
    exact⟨v,h2,(hg ⟨k/Cod.wd Y,hq⟩).2.2 _ v c h1 g1.symm⟩
   have hR:R tp I w (.slice (some ⟨b,off,none⟩) len cap) (.list (Cod.wd Y) (es.map Cod.enc)):=by
    have hll:(es.map (Cod.enc (X:=Y))).length=len:=by simp[hesl]
    rw[<-hll]
    have rd:∀ (k:Nat) (c:D),(aW (es.map Cod.enc))[k]? =some c->w.cell? ⟨b,off+k,none⟩=some ((w.cell? ⟨b,off+k,none⟩).getD Go.undef):=fun k c hk=>by
     obtain⟨v,h1,_⟩:=flatAt k c hk
     rw[h1];rfl
    refine .list b off cap _ (es.map Cod.enc) (fun k=>(w.cell? ⟨b,off+k,none⟩).getD Go.undef) (hI b hb) (by rw[hll];exact hl) hm (fun h=>absurd h1w h) hw rd (fun k c hk=>?_) (fun k c hk=>?_)
    ·obtain⟨v,h1,h2,_⟩:=flatAt k c hk
     rw[h1];exact h2
    ·obtain⟨v,h1,_,h2⟩:=flatAt k c hk
     rw[h1];exact h2
   exact⟨es,one _ es rfl hR⟩
end
end Go.Gv

namespace Go.Gv
open Go.ChangeShapes Go.WideShapes Go.ChangeAt Go.RowKit
section
variable {H:Type}{ec:TypeId×Value->H}{P:Program}{w:World}{base:Nat}{spare:Nat->Bool}{held:Bool}{tp I:Nat->Prop}
end
abbrev qpO(w:World):Nat->Prop:=aN (fun _=>False) (fun _=>False) bM w
theorem qb1{w:World}{b:Nat}(h:b < w.heap.size):qpO w b:=⟨h,fun h=>h,fun h=>h,fun⟨i,r,h,_⟩=>by simp[bM]at h⟩
end Go.Gv

namespace Go.Gv
open Go.ChangeShapes Go.WideShapes Go.ChangeAt Go.RowKit
section
variable {H:Type}{ec:TypeId×Value->H}{P:Program}{w:World}{base:Nat}{spare:Nat->Bool}{held:Bool}{tp I:Nat->Prop}
end
end Go.Gv

namespace Go.Gv
open Cod (enc dec)
instance:Cod UInt8 where
 wd:=1
 enc n:= .v (.int .u8 n.toNat)
 dec| .v (.int .u8 n)=>if 0<=n/\n<=255 then some (UInt8.ofNat n.toNat)else none|_=>none
 kn _:=rfl
 wid _:=rfl
 dec_enc n:=by
  have:=n.toNat_lt
  simp only
  rw[if_pos (by omega)]
  congr 1
  rw[qAe,UInt8.ofNat_toNat]
 le d x h:=by
  split at h
  ·split at h
   ·rename_i n hn
    cases h
    have e:((UInt8.ofNat n.toNat).toNat:Int)=n:=by
     rw[qzd]
     omega
    show FrzTo bM _ (.v (.int .u8 ((UInt8.ofNat n.toNat).toNat:Int)))
    rw[e]
    exact .same _
   ·cases h
  ·cases h
end Go.Gv
