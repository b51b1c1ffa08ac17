/- A part of the framework and of the walks: W82. -/
import Derived.Test.YtaiffcbkmgfklaaGreatDoorGs23
set_option linter.unusedSimpArgs false
set_option linter.unusedVariables false
set_option maxRecDepth 100000

namespace Go.Gv
open Cod (enc dec)
variable {S S0:Nat→Spc}
def Pl (x:List Int×Int×List B) (y:Glob):Prop:=GG x.2.2 x.2.1.toNat y
def qk0 (l:List B) (g:Glob):Prop:=g=GlobE∨GG l 2 g
theorem qhC {i:Nat} {a:B} (h: [(⟨#[97]⟩:B),⟨#[98,124,99]⟩,⟨#[46]⟩][i]?=some a):a∈Yv:=cn h
theorem qhB {i:Nat} {a:B} (h: [(⟨#[83]⟩:B),⟨#[78,80]⟩,⟨#[86,80]⟩][i]?=some a):a∈Ny:=cn h
theorem qhA {i:Nat} {a:B} (h: [(⟨#[111,98,106]⟩:B),⟨#[100,101,116]⟩,⟨#[]⟩][i]?=some a):a∈Sk:=cn h
abbrev pi (n:Nat):Spc:=cY (aT (a2 Int (List B))) (Hi n) (enc (X:=Glob)) Pl
theorem Dm (n:Nat) (h1:S am=s_m_Next) (h2:S gW=kJ) (h3:S bO=pi n):Walk kH j4 S (aT (a2 Int (List B))) (Hi (n+1)) (enc (X:=Glob)) Pl:=by
 rintro⟨L,deep,lb⟩ ⟨hn,hd0,hd1,hlb0,hlb⟩
 simp only at hn hd0 hd1 hlb0 hlb
 simp[kH,j4,h1]
 intro b6 k0 hk0 hk1
 refine jr (X:=Int) [0,1,2,6] [6] (fun k=> 0≤k∧k < 13∧(deep < 1→k < 10)) (fun k=> [(7,enc k)]) (fun _=> []) ?_ ?_
 ·simp
  have:k0.tmod 10=k0 % 10:=Int.tmod_eq_emod_of_nonneg hk0
  rw[this]
  omega
 rintro k ⟨q0,q1,q2⟩
 simp[h1]
 refine fun _=> ⟨by omega,fun i hi=> ⟨by omega,by omega,fun a ha _=> ⟨by omega,fun j hj=> ⟨by omega,by omega,fun c hc=> ?_⟩⟩⟩⟩
 refine jr (X:=Unit) [0,1,2,6,7] [6] (fun _=> 11≤k) (fun _=> []) (fun _=> []) ?_ ?_
 ·have hrec:1≤deep→Hi n (L,deep -1,lb):=fun h=> ⟨by show(deep -1).toNat < n;omega,by show -10≤deep -1;omega,by show deep -1≤100;omega,hlb0,hlb⟩
  have ma:a∈lb:=cn ha
  have mc:c∈lb:=cn hc
  have hdn:1≤deep→deep.toNat=(deep -1).toNat+1:=fun h=> by omega
  simp[h1,h2,h3,Td,Tc,vB,zO, -Bool.forall_bool]
  refine⟨fun _=> jg [] [] (.nil _) (.nil _) (.bound _ a ma),fun _=> ⟨fun _ y y0 y1=> ⟨y0,y1,fun v hv z _ _=> jg [] [] (.nil _) (.nil _) (.val _ a v _ ma (qhC hv))⟩,fun _=> ⟨fun _ y y0 y1=> ⟨y0,y1,fun g hg=> jg [] [] (.nil _) (.nil _) (.same _ a c g ma mc (qhF hg))⟩,fun _=> ⟨fun _ y y0 y1=> ⟨by simp only[InR];omega,fun z z0 z1=> ⟨by simp only[InR];omega,jg [] [] (.nil _) (.nil _) (.dist _ a c _ _ ma mc (by omega) (by omega) (by omega) (by omega))⟩⟩,fun _=> ⟨fun _ y y0 y1=> ⟨trivial,fun t ht=> jg [] [] (.nil _) (.nil _) (.reg _ a c t ma mc ht)⟩,fun _=> ⟨fun _=> jg [] [] (.nil _) (.nil _) (.head _ 6 a c (.inl rfl) ma mc),fun _=> ⟨fun _=> jg [] [] (.nil _) (.nil _) (.head _ 7 a c (.inr rfl) ma mc),fun _=> ⟨fun _ b11 y y0 y1=> ?_,fun _=> ⟨fun _ y y0 y1=> ⟨y0,y1,fun t ht=> jg [] [] (.nil _) (.nil _) (.node _ a c t ma mc (qhB ht))⟩,fun _=> ⟨fun _ y y0 y1 z z0 z1=> ⟨by simp only[InR];omega,jg [] [] (.nil _) (.nil _) (.depth _ a _ _ ma (by omega) (by omega) (by omega) (by omega))⟩,fun _=> ⟨fun hk10=> ⟨by simp only[InR];omega,hrec (by omega),fun g=> ?_⟩,fun _=> by omega⟩⟩⟩⟩⟩⟩⟩⟩⟩⟩⟩
  ·refine sC (X:=Int×Value×List B) [0,6,11] [6] [] [] [] [] (fun x=> (0≤x.1∧x.1+x.2.2.length≤2)∧ ∀z∈x.2.2,z∈Sk) (fun x=> [(12,enc x.1)]) (fun x=> [(11, .box b11 [.v (.int .i64 8), .v (.string a), .v (.string c), .v (.string ⟨#[]⟩), .v (.string ⟨#[]⟩), .v (.string ⟨#[]⟩), .v (.bool false), .v (.int .i64 0), .v (.int .i64 0), .own 111 x.2.1, .v (.slice none 0 0)]),(111, .row x.2.1 az 1 (x.2.2.map enc))]) (fun x=> x.1.toNat) (y, .slice none 0 0, []) [11,111] (fun _=> rfl) (by decide) (by decide) ?_ ?_ ?_ ?_
   ·exact⟨⟨y0,by simp;omega⟩,by simp⟩
   ·simp
   ·simp[isNilRow]
    exact .nilown 111
   ·rintro⟨i,v,l⟩ ⟨⟨e1,e2⟩,e3⟩
    simp only at e1 e2 e3
    simp[h1,Tc,vB,zO]
    exact⟨fun hi z z0 z1=> ⟨z0,z1,fun w hw=> ⟨by omega,by omega,fun v=> ⟨by simp only[InR];omega,i -1,v,l++ [w],⟨⟨by omega,by simp;omega⟩,fun z hz=> (List.mem_append.1 hz).elim (e3 z) fun h=> by simp at h;subst h;exact qhA hw⟩,⟨rfl, .inl (.inl rfl), .inl (.inl (by simp))⟩,by omega⟩⟩⟩,fun hi=> jg l [] (OY az (by simp)) (.nil _) (.path _ a c l ma mc (by omega) e3)⟩
  ·exact fun hg=> jg [] [g] (.nil _) (by simp) (by show GG lb deep.toNat _;rw[hdn (by omega)];exact .not _ _ hg)
 ·rintro -hk
  have hrec:Hi n (L,deep -1,lb):=⟨by show(deep -1).toNat < n;omega,by show -10≤deep -1;omega,by show deep -1≤100;omega,hlb0,hlb⟩
  have hdn:deep.toNat=(deep -1).toNat+1:=by omega
  simp[h3,hrec]
  exact⟨by simp only[InR];omega,by simp only[InR];omega,by simp only[InR];omega,fun y hy=> ⟨by simp only[InR];omega,fun z hz=> jg [] [y,z] (.nil _) (by simp) (by show GG lb deep.toNat _;rw[hdn];exact .two _ _ _ _ (by omega) hy hz)⟩⟩
abbrev nw:Spc:=cY (aT (a2 Int (List B))) (fun x=> ∃n,Hi n x) (enc (X:=Glob)) Pl
abbrev vG:Spc:=cY (aT a0) XU (enc (X:=Filt)) (fun _ y=> GF y)
theorem LA (h1:S am=s_m_Next) (h2:S gW=kJ):Walk nZ nI S (aT a0) XU (enc (X:=Filt)) (fun _ y=> GF y):=by
 rintro⟨L,⟨⟩⟩ -
 simp[nZ,nI,h1,h2]
 refine fun b y y0 y1=> ⟨by simp only[InR];omega,fun z z0 z1 u u0 u1=> ⟨trivial,fun t ht=> ?_⟩⟩
 exact gj (⟨1+y,decide (z=2),t⟩:Filt) (by simp) ⟨by show 1+y=1∨1+y=2∨1+y=3;omega,ht⟩
def Hg (x:List Int×Int) (q:Qry):Prop:=GQ x.2.toNat q
abbrev yO:Spc:=cY (aT (a1 Int)) (fun x=> 0≤x.2∧x.2≤5) (enc (X:=Qry)) Hg
theorem NS (h1:S am=s_m_Next) (h2:S bS=rW) (h3:S gH=s_Bound2) (h4:S m9=yN) (h5:S bO=nw) (h6:S ji=vG):
 Walk pI px S (aT (a1 Int)) (fun x=> 0≤x.2∧x.2≤5) (enc (X:=Qry)) Hg:=by
 rintro⟨L,deep⟩ ⟨hd0,hd1⟩
 simp only at hd0 hd1
 simp[pI,px,h1]
 intro b4
 refine jr (X:=List B) [0,1,4] [4] (fun l=> Jm l∧l.length≤2) (fun l=> [(5,enc l)]) (fun _=> []) ?_ ?_
 ·simp[h1]
  exact fun _ _ _=> ⟨fun _=> ⟨[qaz,qay],⟨fun l hl=> by simpa using hl,by simp⟩,by simp[qaz,qay]⟩,fun _ l hl=> by simp at hl⟩
 rintro lb ⟨hlb,hll⟩
 simp[h1,h2]
 refine⟨⟨by omega,by omega,by omega⟩,fun y hy b=> ?_⟩
 have hw:WP lb deep.toNat y:=hy.1.1
 have hpd:PD deep.toNat y:=hy.1.2
 have hnum:xI y≤1000000:=by
  have:=(Pt _ y hw (by omega)).2.2
  have h2:2^ (deep.toNat+1)≤64:=Nat.pow_le_pow_right (n:=2) (by omega) (show deep.toNat+1≤6 by omega)
  omega
 have hB:Yu y []:=by show 0+xI y≤_;omega
 have hbd: ∃n,PD n y:=⟨_,hpd⟩
 simp[h3,hB]
 refine .inl fun l hl=> ?_
 have hlq:l=jE y []:=hl
 have hlm:l.length≤0+xI y:=by rw[hlq];exact Np y []
 simp[h4,hbd]
 intro p hp z z0 z1 b7
 have hp:p=lN l y:=hp
 have hq: ∀g fs s,(g=GlobE∨GG l 2 g)→(fs.length≤1∧ ∀f∈fs,GF f)→(0≤s∧s < 4)→Hg (L,deep) ⟨p,g,fs,s⟩:=by
  intro g fs s hg hfs hs
  have hbl:jE p []=l:=by rw[hp,Vs,←hlq]
  refine⟨⟨lb,hlb,by show WP lb deep.toNat p;rw[hp];exact Wl _ _ hw⟩,?_,by show g=GlobE∨GG (jE p []) 2 g;rw[hbl];exact hg,hfs,hs⟩
  show ∀y∈aW p,GC (jE p []) 1 y.cond
  rw[hbl,hp,Mq]
  intro x hx
  obtain⟨u,hu,rfl⟩:=List.mem_map.1 hx
  rw[pd]
  exact Zq (hy.2 u hu)
 refine zB (X:=Glob) [0,4] [4] [] [] (qk0 l) (fun _=> [(7, .bptr 7 b7 0)]) (fun g=> [(7, .box b7 [.v (.int .i64 p.op), .v (.int .i64 p.cond.op), .v (.string p.cond.name), .v (.string p.cond.arg), .v (.string p.cond.val), .v (.string p.cond.lab), .v (.bool p.cond.fold),enc p.cond.kids, .v (.string p.lab), .v (.string p.reg), .v (.int .i64 p.mn), .v (.int .i64 p.mx),enc p.kids, .v (.int .i64 g.op), .v (.string g.a), .v (.string g.b), .v (.string g.name), .v (.string g.arg), .v (.string g.val), .v (.bool g.fold), .v (.int .i64 g.mn), .v (.int .i64 g.mx),enc g.args,enc g.kids, .v (.slice none 0 0), .v (.int .i64 z)])]) [7] (fun _=> rfl) (by decide) ?_ ?_
 ·simp[h1,h5, -Bool.forall_bool]
  refine fun _=> ⟨fun hl0 u u0 u1=> ⟨fun _=> ⟨⟨3,by show(2:Int).toNat < 3;decide,by show -10≤(2:Int);decide,by show(2:Int)≤100;decide,hl0,by show l.length≤1000000;omega⟩,fun g hg=> ⟨g, .inr hg, .inl (.inl ⟨rfl,rfl,rfl,rfl,rfl,rfl,rfl,rfl,rfl,rfl,rfl⟩)⟩⟩,fun _=> ⟨⟨0,⟨#[]⟩,⟨#[]⟩,⟨#[]⟩,⟨#[]⟩,⟨#[]⟩,false,0,0, [], []⟩, .inl rfl, .inl ⟨rfl,rfl,rfl,rfl,rfl,rfl,rfl,rfl,rfl,rfl,rfl⟩⟩⟩,fun _=> ⟨⟨0,⟨#[]⟩,⟨#[]⟩,⟨#[]⟩,⟨#[]⟩,⟨#[]⟩,false,0,0, [], []⟩, .inl rfl, .inl ⟨rfl,rfl,rfl,rfl,rfl,rfl,rfl,rfl,rfl,rfl,rfl⟩⟩⟩
 rintro g hg
 refine zB (X:=List Filt) [4] [4] [49] [] (fun fs=> fs.length≤1∧ ∀f∈fs,GF f) (fun _=> [(7, .bptr 7 b7 0)]) (fun fs=> [(7, .box b7 [.v (.int .i64 p.op), .v (.int .i64 p.cond.op), .v (.string p.cond.name), .v (.string p.cond.arg), .v (.string p.cond.val), .v (.string p.cond.lab), .v (.bool p.cond.fold),enc p.cond.kids, .v (.string p.lab), .v (.string p.reg), .v (.int .i64 p.mn), .v (.int .i64 p.mx),enc p.kids, .v (.int .i64 g.op), .v (.string g.a), .v (.string g.b), .v (.string g.name), .v (.string g.arg), .v (.string g.val), .v (.bool g.fold), .v (.int .i64 g.mn), .v (.int .i64 g.mx),enc g.args,enc g.kids,enc fs, .v (.int .i64 z)])]) [7] (fun _=> rfl) (by decide) ?_ ?_
 ·simp[h1]
  intro u u0 u1
  have ut:u.tdiv 2=u/2:=Int.tdiv_eq_ediv_of_nonneg u0
  rw[ut]
  refine⟨by simp only[InR];omega,?_⟩
  refine sC (X:=Int×Value×List Filt) [0,4,7] [4] [] [] [] [] (fun x=> (0≤x.1∧x.1+x.2.2.length≤1)∧ ∀f∈x.2.2,GF f) (fun x=> [(8,enc x.1)]) (fun x=> [(7, .box b7 [.v (.int .i64 p.op), .v (.int .i64 p.cond.op), .v (.string p.cond.name), .v (.string p.cond.arg), .v (.string p.cond.val), .v (.string p.cond.lab), .v (.bool p.cond.fold),enc p.cond.kids, .v (.string p.lab), .v (.string p.reg), .v (.int .i64 p.mn), .v (.int .i64 p.mx),enc p.kids, .v (.int .i64 g.op), .v (.string g.a), .v (.string g.b), .v (.string g.name), .v (.string g.arg), .v (.string g.val), .v (.bool g.fold), .v (.int .i64 g.mn), .v (.int .i64 g.mx),enc g.args,enc g.kids, .own 49 x.2.1, .v (.int .i64 z)]),(49, .row x.2.1 gc 3 (x.2.2.map enc))]) (fun x=> x.1.toNat) (u/2, .slice none 0 0, []) [7,49] (fun _=> rfl) (by decide) (by decide) ?_ ?_ ?_ ?_
  ·exact⟨⟨by show 0≤u/2;omega,by simp;omega⟩,by simp⟩
  ·simp
  ·simp[isNilRow]
   exact .nilown 49
  ·rintro⟨i,v,fs⟩ ⟨⟨e1,e2⟩,e3⟩
   simp only at e1 e2 e3
   simp[h6]
   refine⟨fun hi=> ⟨trivial,fun y hy=> ⟨by omega,by omega,fun v=> ⟨by simp only[InR];omega,i -1,v,fs++ [y],⟨⟨by omega,by simp;omega⟩,fun z hz=> (List.mem_append.1 hz).elim (e3 z) fun h=> by simp at h;subst h;exact hy⟩,⟨rfl, .inl (.inl rfl), .inl (.inl (by simp))⟩,by omega⟩⟩⟩,fun hi=> ⟨fs,⟨by omega,e3⟩, .inl (OY gc (by simp[Rz]))⟩⟩
 ·rintro fs hfs
  simp
  exact gj (⟨p,g,fs,z⟩:Qry) (by simp) (hq _ _ _ hg hfs ⟨z0,z1⟩)
end Go.Gv
