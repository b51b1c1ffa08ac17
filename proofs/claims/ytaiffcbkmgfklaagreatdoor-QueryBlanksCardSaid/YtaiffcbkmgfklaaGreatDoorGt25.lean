/- A part of the framework and of the walks: W81 W82. -/
import Derived.Test.YtaiffcbkmgfklaaGreatDoorGt22
import Derived.Test.YtaiffcbkmgfklaaGreatDoorGt24
set_option linter.unusedSimpArgs false
set_option linter.unusedVariables false
set_option maxRecDepth 100000

namespace Go.Gv
open Cod (enc dec)
variable {S S0:Nat→Spc}
theorem Ld (p:Pat): ∀out,(i7 p out).length≤out.length+vF p:=by
 induction p using vf with | _ p ih=> ?_
 intro out
 rw[nw,pz]
 split
 ·unfold Lk
  split
  ·omega
  ·simp
 ·have: ∀ (ks:List Pat) (o:List B),(∀k∈ks,k∈p.kids)→(ks.foldl (fun o k=> i7 k o) o).length≤o.length+fH ks:=by
   intro ks
   induction ks with
   | nil=> intro o _;simp[fH]
   | cons k ks ihk=>
     intro o hk
     rw[List.foldl_cons,fH]
     have h1:=ihk (i7 k o) fun z hz=> hk z (by simp[hz])
     have:=ih k (hk k (by simp)) o
     omega
  have:=this p.kids out fun _ h=> h
  omega
theorem yI (ks:List Pat) (k:Nat) (lb:List B): ((ks.take k).foldl (fun o k=> i7 k o) lb).length≤lb.length+fH (ks.take k):=by
 generalize ks.take k=l
 induction l generalizing lb with
 | nil=> simp[fH]
 | cons a l ih=>
   rw[List.foldl_cons,fH]
   have h1:=ih (i7 a lb)
   have h2:=Ld a lb
   omega
def M2 (x:Cond×List B) (y:Cond):Prop:=y=qC x.2 x.1
abbrev rj (n:Nat):Spc:=dt (a2 Cond (List B)) (Tq n) (enc (X:=Cond)) M2
theorem Hy (n:Nat) (h1:S fL=rj n):Walk sk rB S (a2 Cond (List B)) (Tq (n+1)) (enc (X:=Cond)) M2:=by
 rintro⟨c,lb⟩ ⟨_,hc⟩
 simp only at hc
 have hc:CS n c:=hc
 simp[sk,rB]
 intro b2 b4
 refine⟨fun ho _=> ?_,fun ho hl=> ?_⟩
 ·refine aJ (X:=Unit) [2,4,13] [2,4] lb.length (fun k _=> ∀z∈lb.take k,z≠c.lab) (fun _=> []) (fun _=> []) () (by simp) (by simp) (by omega) (by simp) (by simp) (by simp) (by simp) (by simp) ?_ ?_
  ·rintro k -hk hz
   obtain⟨x,hx⟩:=cV hk
   obtain⟨_,hgx⟩:=List.getElem?_eq_some_iff.1 hx
   simp[hk,hx,hgx]
   refine⟨fun hxl=> fI c.kids (.same _) ?_,fun hxl z hz'=> ?_⟩
   ·show Cond.mk _ _ _ _ _ _ _=qC lb c
    rw[yB,jg,if_pos ho,if_pos (hxl ▸cn hx)]
   ·rw[cp hx] at hz'
    rcases List.mem_append.1 hz' with h | h
    ·exact hz z h
    ·simp at h;subst h;exact hxl
  ·rintro -hz
   rw[List.take_length] at hz
   simp
   refine fI [] (.nil _) ?_
   show _=qC lb c
   rw[jg,if_pos ho,if_neg (fun h=> hz _ h rfl)]
   rfl
 ·refine aJ (X:=Value×List Cond) [1,2,4,29] [2,4] c.kids.length (fun k x=> x.2=(c.kids.take k).map (qC lb)) (fun x=> [(7, .own 40 x.1)]) (fun x=> [(40, .row x.1 aN 7 (x.2.map enc))]) (.slice none 0 0, []) (by simp) (by simp) (by omega) (by simp) (by simp) (by simp) (by simp) (by simp[isNilRow]) ?_ ?_
  ·rintro k ⟨v,ks⟩ hk hkl
   simp only at hkl
   obtain⟨x,hx⟩:=cV hk
   obtain⟨_,hgx⟩:=List.getElem?_eq_some_iff.1 hx
   obtain⟨m,hm,hx1⟩:=XA hc (cn hx)
   have hp:Tq n (x,lb):=⟨by omega,by rw[hm];exact hx1⟩
   simp[hk,hx,hgx,h1,hp]
   have:=Xz hc
   have hkl2:ks.length=k:=by rw[hkl,List.length_map,List.length_take];omega
   refine fun y hy=> ⟨by omega,by omega,fun v=> .inl ?_⟩
   obtain rfl:y=qC lb x:=hy
   rw[hkl,List.map_map,List.map_take,List.take_add_one]
   simp[hx]
  ·rintro⟨v,ks⟩ hkl
   simp only at hkl
   simp
   rw[List.take_length] at hkl
   refine fI ks (MF aN (by simp)) ?_
   show _=qC lb c
   rw[jg,if_neg ho,hkl]
abbrev pM:Spc:=dt (a2 Cond (List B)) (fun x=> ∃n,CS n x.1) (enc (X:=Cond)) M2
def I7 (x:Pat×List B) (y:Pat):Prop:=y=jW x.2 x.1
abbrev zp (n:Nat):Spc:=dt (a2 Pat (List B)) (M5 n) (enc (X:=Pat)) I7
theorem Ov (n:Nat) (h1:S fL=pM) (h2:S lm=zp n):Walk Au zy S (a2 Pat (List B)) (M5 (n+1)) (enc (X:=Pat)) I7:=by
 rintro⟨p,lb⟩ ⟨_,hp⟩
 simp only at hp
 have hp:PD n p:=hp
 have hcd:=Uv hp
 have hpl:=WB hp
 simp[Au,zy,h1]
 intro b2 b4
 refine⟨hcd,fun c hc _=> ?_⟩
 refine aJ (X:=Value×List Pat) [1,2,4,14] [2,4] p.kids.length (fun k x=> x.2=(p.kids.take k).map (jW lb)) (fun x=> [(5, .own 25 x.1)]) (fun x=> [(25, .row x.1 ah 13 (x.2.map enc))]) (.slice none 0 0, []) (by simp) (by simp) (by omega) (by simp) (by simp) (by simp) (by simp) (by simp[isNilRow]) ?_ ?_
 ·rintro k ⟨v,ks⟩ hk hkl
  simp only at hkl
  obtain⟨x,hx⟩:=cV hk
  obtain⟨_,hgx⟩:=List.getElem?_eq_some_iff.1 hx
  obtain⟨m,hm,hx1⟩:=WC hp (cn hx)
  have hq:M5 n (x,lb):=⟨by omega,by rw[hm];exact hx1⟩
  have hkl2:ks.length=k:=by rw[hkl,List.length_map,List.length_take];omega
  simp[hk,hx,hgx,h2,hq]
  refine fun y hy=> ⟨by omega,by omega,fun v=> .inl ?_⟩
  obtain rfl:y=jW lb x:=hy
  rw[hkl,List.map_map,List.map_take,List.take_add_one]
  simp[hx]
 ·rintro⟨v,ks⟩ hkl
  simp only at hkl
  rw[List.take_length] at hkl
  simp
  refine vi c.kids ks (.same _) (MF ah (by simp)) ?_
  show _=jW lb p
  rw[mI,←show c=qC lb p.cond from hc,hkl,yB]
abbrev wE:Spc:=dt (a2 Pat (List B)) (fun x=> ∃n,PD n x.1) (enc (X:=Pat)) I7
abbrev pN:Spc:=dt (aT (a2 Int (List B))) (fun x=> -10≤x.2.1∧x.2.1≤100∧x.2.2.length≤1000) (enc (X:=Pat)) Fb
def Tp (x:Pat) (l r:List B):Prop:=r=i7 x l
abbrev Et (n:Nat):Spc:=VD (X:=Pat) (Y:=B) (fun x l=> eJ x≤n∧VU x l) Tp ax 1
abbrev i_BoundA2:Spc:=VD (X:=Pat) (Y:=B) VU Tp ax 1
theorem Ju (n:Nat) (h1:S fB=Et n):I5 (X:=Pat) (Y:=B) o4 n9 S (fun x l=> eJ x≤n+1∧VU x l) Tp ax 1:=by
 rintro v lb p ⟨hd,hl⟩
 have hk: ∀k∈p.kids,eJ k≤n:=fun k h=> by have:=k9 h;have:eJ p≤n+1:=hd;omega
 have hl:lb.length+vF p≤1000000:=hl
 have hpn:=pz p
 simp[o4,n9]
 refine gO (X:=Unit) [1,2] [1] (fun _=> p.op=1→p.lab=E0) (fun _=> []) (fun _=> []) ?_ ?_
 ·simp
  refine⟨fun ho=> ⟨fun hn _=> ?_,fun h _=> h⟩,fun ho h=> absurd h ho⟩
  refine aJ (X:=Unit) [1,2,17] [1] lb.length (fun k _=> ∀z∈lb.take k,z≠p.lab) (fun _=> []) (fun _=> []) () (by simp) (by simp) (by omega) (by simp) (by simp) (by simp) (by simp) (by simp) ?_ ?_
  ·rintro k -hkk hz
   obtain⟨x,hx⟩:=cV hkk
   obtain⟨_,hgx⟩:=List.getElem?_eq_some_iff.1 hx
   simp[hkk,hx,hgx]
   refine⟨fun hxl=> jh lb (by simp) ?_,fun hxl z hz'=> ?_⟩
   ·show lb=i7 p lb
    rw[nw,if_pos ⟨ho,hn⟩,Lk,if_pos (hxl ▸cn hx)]
   ·rw[cp hx] at hz'
    rcases List.mem_append.1 hz' with h | h
    ·exact hz z h
    ·simp at h;subst h;exact hxl
  ·rintro -hz
   rw[List.take_length] at hz
   simp
   refine⟨by omega,by omega,fun v=> jh (lb++ [p.lab]) (by simp) ?_⟩
   show _=i7 p lb
   rw[nw,if_pos ⟨ho,hn⟩,Lk,if_neg fun h=> hz _ h rfl]
 ·rintro -hno
  simp
  intro hkl
  refine aJ (X:=Value×List B) [35] [] p.kids.length (fun k x=> x.2=(p.kids.take k).foldl (fun o k=> i7 k o) lb) (fun x=> [(1, .own 1 x.1)]) (fun x=> [(1, .row x.1 ax 1 (x.2.map enc))]) (v,lb) (by simp) (by simp) (by omega) (by simp) (by simp) (by simp) (by simp) (by simp) ?_ ?_
  ·rintro k ⟨v,ls⟩ hkk hls
   simp only at hls
   obtain⟨x,hx⟩:=cV hkk
   obtain⟨_,hgx⟩:=List.getElem?_eq_some_iff.1 hx
   have hq:VU x ls:=by
    have h2:=yI p.kids k lb
    have h3:=yI (p.kids.drop k) 1 ls
    rw[←hls] at h2
    have h4:fH (p.kids.take k) +fH (p.kids.drop k)=fH p.kids:=by rw[←GK,List.take_append_drop]
    rw[dC hx,fH] at h4
    show ls.length+vF x≤_
    omega
   have hq2:=hk x (cn hx)
   simp[hkk,hx,hgx,h1,hq,hq2]
   intro v' l' hy
   obtain rfl:l'=i7 x ls:=hy
   refine .inl ?_
   rw[cp hx,List.foldl_append,←hls]
   rfl
  ·rintro⟨v,ls⟩ hls
   simp only at hls
   rw[List.take_length] at hls
   simp
   refine jh ls (by simp) ?_
   show ls=i7 p lb
   rw[nw,if_neg fun h=> h.2 (hno h.1),hls]
abbrev Sp:Spc:=Zu (Y:=B) (aE Pat (aD a0)) (fun x=> x.2.1= .v (.slice none 0 0)∧VU x.1 []) (fun x r=> Tp x.1 [] r) ax 1
theorem Jv (h1:S fB=i_BoundA2):Ob (Y:=B) o4 n9 S (aE Pat (aD a0)) (fun x=> x.2.1= .v (.slice none 0 0)∧VU x.1 []) (fun x r=> Tp x.1 [] r) ax 1:=by
 rintro⟨p,d,⟨⟩⟩ ⟨hd,hl⟩
 have hd:d= .v (.slice none 0 0):=hd
 subst hd
 have hl:0+vF p≤1000000:=hl
 have hpn:=pz p
 simp[o4,n9]
 refine gO (X:=Unit) [1,2] [] (fun _=> p.op=1→p.lab=E0) (fun _=> []) (fun _=> []) ?_ ?_
 ·simp
  refine⟨fun ho=> ⟨fun hn=> ?_,fun h _=> h⟩,fun ho h=> absurd h ho⟩
  refine aJ (X:=Unit) [1,2] [] 0 (fun _ _=> True) (fun _=> []) (fun _=> []) () (by simp) (by simp) (by omega) (by simp) (by simp) trivial (by simp) (by simp) ?_ ?_
  ·rintro k -hkk -
   exact absurd hkk (Nat.not_lt_zero _)
  ·rintro - -
   simp
   refine fun v=> jh [p.lab] (by simp) ?_
   show _=i7 p []
   rw[nw,if_pos ⟨ho,hn⟩,Lk,if_neg (by simp)]
   rfl
 ·rintro -hno
  simp
  intro hkl
  refine aJ (X:=Value×List B) [35] [] p.kids.length (fun k x=> x.2=(p.kids.take k).foldl (fun o k=> i7 k o) []) (fun x=> [(1, .own 1 x.1)]) (fun x=> [(1, .row x.1 ax 1 (x.2.map enc))]) (.slice none 0 0, []) (by simp) (by simp) (by omega) (by simp) (by simp) (by simp) (by simp) (by simp[isNilRow]) ?_ ?_
  ·rintro k ⟨v,ls⟩ hkk hls
   simp only at hls
   obtain⟨x,hx⟩:=cV hkk
   obtain⟨_,hgx⟩:=List.getElem?_eq_some_iff.1 hx
   have hq:VU x ls:=by
    have h2:=yI p.kids k []
    have h3:=yI (p.kids.drop k) 1 ls
    rw[←hls,List.length_nil] at h2
    have h4:fH (p.kids.take k) +fH (p.kids.drop k)=fH p.kids:=by rw[←GK,List.take_append_drop]
    rw[dC hx,fH] at h4
    show ls.length+vF x≤_
    omega
   simp[hkk,hx,hgx,h1,hq]
   intro v' l' hy
   obtain rfl:l'=i7 x ls:=hy
   refine .inl ?_
   rw[cp hx,List.foldl_append,←hls]
   rfl
  ·rintro⟨v,ls⟩ hls
   simp only at hls
   rw[List.take_length] at hls
   simp
   refine jh ls (by simp) ?_
   show ls=i7 p []
   rw[nw,if_neg fun h=> h.2 (hno h.1),hls]
abbrev s_Bound2:Spc:=YZ Sp i_BoundA2
end Go.Gv

namespace Go.Gv
open Cod (enc dec)
variable {S S0:Nat→Spc}
def M4 (x:List Int×Int×List B) (y:Glob):Prop:=GG x.2.2 x.2.1.toNat y
def qiI (l:List B) (g:Glob):Prop:=g=fh∨GG l 2 g
theorem qfm {i:Nat} {a:B} (h: [(⟨#[97]⟩:B),⟨#[98,124,99]⟩,⟨#[46]⟩][i]?=some a):a∈VV:=cn h
theorem qfl {i:Nat} {a:B} (h: [(⟨#[83]⟩:B),⟨#[78,80]⟩,⟨#[86,80]⟩][i]?=some a):a∈Tt:=cn h
theorem qfk {i:Nat} {a:B} (h: [(⟨#[111,98,106]⟩:B),⟨#[100,101,116]⟩,⟨#[]⟩][i]?=some a):a∈Tk:=cn h
abbrev mN (n:Nat):Spc:=dt (aT (a2 Int (List B))) (Fc n) (enc (X:=Glob)) M4
theorem Bd (n:Nat) (h1:S aj=s_m_Next) (h2:S fM=je) (h3:S bp=mN n):Walk i3 ix S (aT (a2 Int (List B))) (Fc (n+1)) (enc (X:=Glob)) M4:=by
 rintro⟨L,deep,lb⟩ ⟨hn,hd0,hd1,hlb0,hlb⟩
 simp only at hn hd0 hd1 hlb0 hlb
 simp[i3,ix,h1]
 intro b6 k0 hk0 hk1
 refine gO (X:=Int) [0,1,2,6] [6] (fun k=> 0≤k∧k < 13∧(deep < 1→k < 10)) (fun k=> [(7,enc k)]) (fun _=> []) ?_ ?_
 ·simp
  have:k0.tmod 10=k0 % 10:=Int.tmod_eq_emod_of_nonneg hk0
  rw[this]
  omega
 rintro k ⟨q0,q1,q2⟩
 simp[h1]
 refine fun _=> ⟨by omega,fun i hi=> ⟨by omega,by omega,fun a ha _=> ⟨by omega,fun j hj=> ⟨by omega,by omega,fun c hc=> ?_⟩⟩⟩⟩
 refine gO (X:=Unit) [0,1,2,6,7] [6] (fun _=> 11≤k) (fun _=> []) (fun _=> []) ?_ ?_
 ·have hrec:1≤deep→Fc n (L,deep -1,lb):=fun h=> ⟨by show(deep -1).toNat < n;omega,by show -10≤deep -1;omega,by show deep -1≤100;omega,hlb0,hlb⟩
  have ma:a∈lb:=cn ha
  have mc:c∈lb:=cn hc
  have hdn:1≤deep→deep.toNat=(deep -1).toNat+1:=fun h=> by omega
  simp[h1,h2,h3,QS,QR,tB,xG, -Bool.forall_bool]
  refine⟨fun _=> gH [] [] (.nil _) (.nil _) (.bound _ a ma),fun _=> ⟨fun _ y y0 y1=> ⟨y0,y1,fun v hv z _ _=> gH [] [] (.nil _) (.nil _) (.val _ a v _ ma (qfm hv))⟩,fun _=> ⟨fun _ y y0 y1=> ⟨y0,y1,fun g hg=> gH [] [] (.nil _) (.nil _) (.same _ a c g ma mc (qfp hg))⟩,fun _=> ⟨fun _ y y0 y1=> ⟨by simp only[InR];omega,fun z z0 z1=> ⟨by simp only[InR];omega,gH [] [] (.nil _) (.nil _) (.dist _ a c _ _ ma mc (by omega) (by omega) (by omega) (by omega))⟩⟩,fun _=> ⟨fun _ y y0 y1=> ⟨trivial,fun t ht=> gH [] [] (.nil _) (.nil _) (.reg _ a c t ma mc ht)⟩,fun _=> ⟨fun _=> gH [] [] (.nil _) (.nil _) (.head _ 6 a c (.inl rfl) ma mc),fun _=> ⟨fun _=> gH [] [] (.nil _) (.nil _) (.head _ 7 a c (.inr rfl) ma mc),fun _=> ⟨fun _ b11 y y0 y1=> ?_,fun _=> ⟨fun _ y y0 y1=> ⟨y0,y1,fun t ht=> gH [] [] (.nil _) (.nil _) (.node _ a c t ma mc (qfl ht))⟩,fun _=> ⟨fun _ y y0 y1 z z0 z1=> ⟨by simp only[InR];omega,gH [] [] (.nil _) (.nil _) (.depth _ a _ _ ma (by omega) (by omega) (by omega) (by omega))⟩,fun _=> ⟨fun hk10=> ⟨by simp only[InR];omega,hrec (by omega),fun g=> ?_⟩,fun _=> by omega⟩⟩⟩⟩⟩⟩⟩⟩⟩⟩⟩
  ·refine ql (X:=Int×Value×List B) [0,6,11] [6] [] [] [] [] (fun x=> (0≤x.1∧x.1+x.2.2.length≤2)∧ ∀z∈x.2.2,z∈Tk) (fun x=> [(12,enc x.1)]) (fun x=> [(11, .box b11 [.v (.int .i64 8), .v (.string a), .v (.string c), .v (.string ⟨#[]⟩), .v (.string ⟨#[]⟩), .v (.string ⟨#[]⟩), .v (.bool false), .v (.int .i64 0), .v (.int .i64 0), .own 111 x.2.1, .v (.slice none 0 0)]),(111, .row x.2.1 ax 1 (x.2.2.map enc))]) (fun x=> x.1.toNat) (y, .slice none 0 0, []) [11,111] (fun _=> rfl) (by decide) (by decide) ?_ ?_ ?_ ?_
   ·exact⟨⟨y0,by simp;omega⟩,by simp⟩
   ·simp
   ·simp[isNilRow]
    exact .nilown 111
   ·rintro⟨i,v,l⟩ ⟨⟨e1,e2⟩,e3⟩
    simp only at e1 e2 e3
    simp[h1,QR,tB,xG]
    exact⟨fun hi z z0 z1=> ⟨z0,z1,fun w hw=> ⟨by omega,by omega,fun v=> ⟨by simp only[InR];omega,i -1,v,l++ [w],⟨⟨by omega,by simp;omega⟩,fun z hz=> (List.mem_append.1 hz).elim (e3 z) fun h=> by simp at h;subst h;exact qfk hw⟩,⟨rfl, .inl (.inl rfl), .inl (.inl (by simp))⟩,by omega⟩⟩⟩,fun hi=> gH l [] (MF ax (by simp)) (.nil _) (.path _ a c l ma mc (by omega) e3)⟩
  ·exact fun hg=> gH [] [g] (.nil _) (by simp) (by show GG lb deep.toNat _;rw[hdn (by omega)];exact .not _ _ hg)
 ·rintro -hk
  have hrec:Fc n (L,deep -1,lb):=⟨by show(deep -1).toNat < n;omega,by show -10≤deep -1;omega,by show deep -1≤100;omega,hlb0,hlb⟩
  have hdn:deep.toNat=(deep -1).toNat+1:=by omega
  simp[h3,hrec]
  exact⟨by simp only[InR];omega,by simp only[InR];omega,by simp only[InR];omega,fun y hy=> ⟨by simp only[InR];omega,fun z hz=> gH [] [y,z] (.nil _) (by simp) (by show GG lb deep.toNat _;rw[hdn];exact .two _ _ _ _ (by omega) hy hz)⟩⟩
abbrev lL:Spc:=dt (aT (a2 Int (List B))) (fun x=> ∃n,Fc n x) (enc (X:=Glob)) M4
abbrev tG:Spc:=dt (aT a0) Vm (enc (X:=jK)) (fun _ y=> GF y)
theorem Jt (h1:S aj=s_m_Next) (h2:S fM=je):Walk mf lU S (aT a0) Vm (enc (X:=jK)) (fun _ y=> GF y):=by
 rintro⟨L,⟨⟩⟩ -
 simp[mf,lU,h1,h2]
 refine fun b y y0 y1=> ⟨by simp only[InR];omega,fun z z0 z1 u u0 u1=> ⟨trivial,fun t ht=> ?_⟩⟩
 exact gq (⟨1+y,decide (z=2),t⟩:jK) (by simp) ⟨by show 1+y=1∨1+y=2∨1+y=3;omega,ht⟩
def Fa (x:List Int×Int) (q:Qry):Prop:=GQ x.2.toNat q
abbrev wF:Spc:=dt (aT (a1 Int)) (fun x=> 0≤x.2∧x.2≤5) (enc (X:=Qry)) Fa
theorem LG (h1:S aj=s_m_Next) (h2:S bv=pN) (h3:S fB=s_Bound2) (h4:S lm=wE) (h5:S bp=lL) (h6:S gJ=tG):
 Walk nb mW S (aT (a1 Int)) (fun x=> 0≤x.2∧x.2≤5) (enc (X:=Qry)) Fa:=by
 rintro⟨L,deep⟩ ⟨hd0,hd1⟩
 simp only at hd0 hd1
 simp[nb,mW,h1]
 intro b4
 refine gO (X:=List B) [0,1,4] [4] (fun l=> Hg l∧l.length≤2) (fun l=> [(5,enc l)]) (fun _=> []) ?_ ?_
 ·simp[h1]
  exact fun _ _ _=> ⟨fun _=> ⟨[Z2,Z1],⟨fun l hl=> by simpa using hl,by simp⟩,by simp[Z2,Z1]⟩,fun _ l hl=> by simp at hl⟩
 rintro lb ⟨hlb,hll⟩
 simp[h1,h2]
 refine⟨⟨by omega,by omega,by omega⟩,fun y hy b=> ?_⟩
 have hw:WP lb deep.toNat y:=hy.1.1
 have hpd:PD deep.toNat y:=hy.1.2
 have hnum:vF y≤1000000:=by
  have:=(Nb _ y hw (by omega)).2.2
  have h2:2^ (deep.toNat+1)≤64:=Nat.pow_le_pow_right (n:=2) (by omega) (show deep.toNat+1≤6 by omega)
  omega
 have hB:VU y []:=by show 0+vF y≤_;omega
 have hbd: ∃n,PD n y:=⟨_,hpd⟩
 simp[h3,hB]
 refine .inl fun l hl=> ?_
 have hlq:l=i7 y []:=hl
 have hlm:l.length≤0+vF y:=by rw[hlq];exact Ld y []
 simp[h4,hbd]
 intro p hp z z0 z1 b7
 have hp:p=jW l y:=hp
 have hq: ∀g fs s,(g=fh∨GG l 2 g)→(fs.length≤1∧ ∀f∈fs,GF f)→(0≤s∧s < 4)→Fa (L,deep) ⟨p,g,fs,s⟩:=by
  intro g fs s hg hfs hs
  have hbl:i7 p []=l:=by rw[hp,SR,←hlq]
  refine⟨⟨lb,hlb,by show WP lb deep.toNat p;rw[hp];exact TL _ _ hw⟩,?_,by show g=fh∨GG (i7 p []) 2 g;rw[hbl];exact hg,hfs,hs⟩
  show ∀y∈aQ p,GC (i7 p []) 1 y.cond
  rw[hbl,hp,Kk]
  intro x hx
  obtain⟨u,hu,rfl⟩:=List.mem_map.1 hx
  rw[mI]
  exact Xa (hy.2 u hu)
 refine xq (X:=Glob) [0,4] [4] [] [] (qiI l) (fun _=> [(7, .bptr 7 b7 0)]) (fun g=> [(7, .box b7 [.v (.int .i64 p.op), .v (.int .i64 p.cond.op), .v (.string p.cond.name), .v (.string p.cond.arg), .v (.string p.cond.val), .v (.string p.cond.lab), .v (.bool p.cond.fold),enc p.cond.kids, .v (.string p.lab), .v (.string p.reg), .v (.int .i64 p.mn), .v (.int .i64 p.mx),enc p.kids, .v (.int .i64 g.op), .v (.string g.a), .v (.string g.b), .v (.string g.name), .v (.string g.arg), .v (.string g.val), .v (.bool g.fold), .v (.int .i64 g.mn), .v (.int .i64 g.mx),enc g.args,enc g.kids, .v (.slice none 0 0), .v (.int .i64 z)])]) [7] (fun _=> rfl) (by decide) ?_ ?_
 ·simp[h1,h5, -Bool.forall_bool]
  refine fun _=> ⟨fun hl0 u u0 u1=> ⟨fun _=> ⟨⟨3,by show(2:Int).toNat < 3;decide,by show -10≤(2:Int);decide,by show(2:Int)≤100;decide,hl0,by show l.length≤1000000;omega⟩,fun g hg=> ⟨g, .inr hg, .inl (.inl ⟨rfl,rfl,rfl,rfl,rfl,rfl,rfl,rfl,rfl,rfl,rfl⟩)⟩⟩,fun _=> ⟨⟨0,⟨#[]⟩,⟨#[]⟩,⟨#[]⟩,⟨#[]⟩,⟨#[]⟩,false,0,0, [], []⟩, .inl rfl, .inl ⟨rfl,rfl,rfl,rfl,rfl,rfl,rfl,rfl,rfl,rfl,rfl⟩⟩⟩,fun _=> ⟨⟨0,⟨#[]⟩,⟨#[]⟩,⟨#[]⟩,⟨#[]⟩,⟨#[]⟩,false,0,0, [], []⟩, .inl rfl, .inl ⟨rfl,rfl,rfl,rfl,rfl,rfl,rfl,rfl,rfl,rfl,rfl⟩⟩⟩
 rintro g hg
 refine xq (X:=List jK) [4] [4] [49] [] (fun fs=> fs.length≤1∧ ∀f∈fs,GF f) (fun _=> [(7, .bptr 7 b7 0)]) (fun fs=> [(7, .box b7 [.v (.int .i64 p.op), .v (.int .i64 p.cond.op), .v (.string p.cond.name), .v (.string p.cond.arg), .v (.string p.cond.val), .v (.string p.cond.lab), .v (.bool p.cond.fold),enc p.cond.kids, .v (.string p.lab), .v (.string p.reg), .v (.int .i64 p.mn), .v (.int .i64 p.mx),enc p.kids, .v (.int .i64 g.op), .v (.string g.a), .v (.string g.b), .v (.string g.name), .v (.string g.arg), .v (.string g.val), .v (.bool g.fold), .v (.int .i64 g.mn), .v (.int .i64 g.mx),enc g.args,enc g.kids,enc fs, .v (.int .i64 z)])]) [7] (fun _=> rfl) (by decide) ?_ ?_
 ·simp[h1]
  intro u u0 u1
  have ut:u.tdiv 2=u/2:=Int.tdiv_eq_ediv_of_nonneg u0
  rw[ut]
  refine⟨by simp only[InR];omega,?_⟩
  refine ql (X:=Int×Value×List jK) [0,4,7] [4] [] [] [] [] (fun x=> (0≤x.1∧x.1+x.2.2.length≤1)∧ ∀f∈x.2.2,GF f) (fun x=> [(8,enc x.1)]) (fun x=> [(7, .box b7 [.v (.int .i64 p.op), .v (.int .i64 p.cond.op), .v (.string p.cond.name), .v (.string p.cond.arg), .v (.string p.cond.val), .v (.string p.cond.lab), .v (.bool p.cond.fold),enc p.cond.kids, .v (.string p.lab), .v (.string p.reg), .v (.int .i64 p.mn), .v (.int .i64 p.mx),enc p.kids, .v (.int .i64 g.op), .v (.string g.a), .v (.string g.b), .v (.string g.name), .v (.string g.arg), .v (.string g.val), .v (.bool g.fold), .v (.int .i64 g.mn), .v (.int .i64 g.mx),enc g.args,enc g.kids, .own 49 x.2.1, .v (.int .i64 z)]),(49, .row x.2.1 fy 3 (x.2.2.map enc))]) (fun x=> x.1.toNat) (u/2, .slice none 0 0, []) [7,49] (fun _=> rfl) (by decide) (by decide) ?_ ?_ ?_ ?_
  ·exact⟨⟨by show 0≤u/2;omega,by simp;omega⟩,by simp⟩
  ·simp
  ·simp[isNilRow]
   exact .nilown 49
  ·rintro⟨i,v,fs⟩ ⟨⟨e1,e2⟩,e3⟩
   simp only at e1 e2 e3
   simp[h6]
   refine⟨fun hi=> ⟨trivial,fun y hy=> ⟨by omega,by omega,fun v=> ⟨by simp only[InR];omega,i -1,v,fs++ [y],⟨⟨by omega,by simp;omega⟩,fun z hz=> (List.mem_append.1 hz).elim (e3 z) fun h=> by simp at h;subst h;exact hy⟩,⟨rfl, .inl (.inl rfl), .inl (.inl (by simp))⟩,by omega⟩⟩⟩,fun hi=> ⟨fs,⟨by omega,e3⟩, .inl (MF fy (by simp[Po]))⟩⟩
 ·rintro fs hfs
  simp
  exact gq (⟨p,g,fs,z⟩:Qry) (by simp) (hq _ _ _ hg hfs ⟨z0,z1⟩)
end Go.Gv
