/- A part of the framework and of the walks: W203 C75 W43 W81 W82 V73 W204 C77. -/
import Derived.Test.YtphdikcommfnhaaGreatDoorGf48
import Derived.Test.YtphdikcommfnhaaGreatDoorGf20
import Derived.Test.YtphdikcommfnhaaGreatDoorGf47
import Derived.Test.YtphdikcommfnhaaGreatDoorGf27
import Derived.Test.YtphdikcommfnhaaGreatDoorGf36
import Derived.Test.YtphdikcommfnhaaGreatDoorGf39
set_option linter.unusedSimpArgs false
set_option linter.unusedVariables false
set_option linter.unusedSectionVars false
set_option maxRecDepth 100000
set_option maxHeartbeats 0

namespace Go.Gv
open Go.Proofs
open Cod (enc dec)
variable {S S0:Nat->Spc}
structure Mb (a:List Attr) (q:Qry):Prop where
 glob:q.glob=GlobE\/GG (aN q.pat []) 2 q.glob
 filts:∀f∈q.filts,GF f
 strat:0<=q.strat/\q.strat < 4
 pat:pq bw q.pat=true
 size:km q.pat<=256
 l3:(aN q.pat []).length<=3
 num:iZ q.pat<=1000000
 att:a=ge
 lv:∀x∈aM q.pat,qg6 a (aN q.pat []) x.cond=true/\∃n,HD n x.cond
structure qkn (q:Qry):Prop where
 filts:∀f∈q.filts,GF f
 strat:0<=q.strat/\q.strat < 4
 pat:pq bw q.pat=true
 size:km q.pat<=256
 l3:(aN q.pat []).length<=3
 num:iZ q.pat<=1000000
abbrev Vz:Spc:=aJ (a1 Qry) qkn (enc (X:=Int)) fun _ y=>y=0
theorem qek{N N2:Nat->Spc}(h0:N cT=A1)(h0':N cD=wb)(h0'':N2 cW=N7)(h1:S lg=H4)(h2:S eE=zA N)(h3:S jY=N0)(h4:S bP=s_qlabels)(h5:S aL=Oa N2):
 aq dr dj S (a1 Qry) qkn (enc (X:=Int)) fun _ y=>y=0:=by
 rintro q hq
 have f1:FunIs N (.clo cT []) (uu bw):=th h0 fun _=>trivial
 have f2:FunIs N (.clo cD []) xt:=th h0' fun _=>trivial
 have hF:Bg N2 (q.filts, .clo cW [],()):=J6 h0'' (fun x hx=>hq.filts x hx) fun _ _ y hy=>hy
 have hp:=hq.pat
 unfold pq at hp
 simp only[qwX]at hp
 obtain⟨⟨⟨p1,p2⟩,p3⟩,p4⟩:=hp
 have hsz:=hq.size
 have hsz2:¬256 < km q.pat:=by omega
 have hl3:=hq.l3
 have s1:¬q.strat < 0:=by have:=hq.strat;omega
 have s2:¬3 < q.strat:=by have:=hq.strat;omega
 have hPb:Xg q.pat []:=by show 0+iZ q.pat<=1000000;have:=hq.num;omega
 simp[dr,dj,h1,p1,p2,h2,s1,s2,h3,hq.pat,hsz,hsz2,h5,hF, -Bool.forall_bool, -Bool.exists_bool]
 refine⟨⟨_,f1⟩,fun y hy=>⟨fun _=>⟨⟨_,f2⟩,fun z hz=>⟨by rw[hz _ f2,p4],fun _=>?_⟩⟩,by rw[hy _ f1,p3]⟩⟩
 simp[h4, -Bool.forall_bool, -Bool.exists_bool]
 refine .inl ⟨hPb,fun l hl _=>?_⟩
 have hl:l=aN q.pat []:=hl
 subst hl
 omega
theorem qd8{N:Nat->Spc}(h0:N nI=N5)(h1:S dW=Vz)(h2:S bP=s_qlabels)(h3:S dV=s_leavesQ)(h4:S fu=TU)(h5:S aL=Oa N)(h6:S ld=QS)(h7:S dC=QM):
 aq fB fk S (a2 Qry (List Attr)) (fun x=>Mb x.2 x.1) (enc (X:=Int)) fun _ y=>y=0:=by
 rintro⟨q,a⟩ hq
 have hq:Mb a q:=hq
 have hC:qkn q:=⟨hq.filts,hq.strat,hq.pat,hq.size,hq.l3,hq.num⟩
 have hPb:Xg q.pat []:=by show 0+iZ q.pat<=1000000;have:=hq.num;omega
 have hlv:(aM q.pat).length<=iZ q.pat:=JX q.pat
 have hPq:qhA q.pat []:=⟨by have:=hq.num;simp;omega,fun y hy=>(hq.lv y hy).2⟩
 have hF:Bg N (q.filts, .clo nI [],()):=J6 h0 (fun x hx=>hq.filts x hx) fun _ _ y hy=>hy
 have hS:q.glob=GlobE\/ ∃lb,GG lb 2 q.glob:=hq.glob.imp id fun h=>⟨_,h⟩
 have hA:C5 (q.glob,a,aN q.pat []):=⟨hq.att,hq.glob.imp id fun h=>⟨_,h⟩⟩
 have hal:a.length<=1000:=by rw[hq.att];decide
 simp[fB,fk,h1,hC,h2, -Bool.forall_bool, -Bool.exists_bool]
 refine .inl ⟨hPb,fun l hl=>?_⟩
 have hl:l=aN q.pat []:=hl
 subst hl
 simp[h3, -Bool.forall_bool, -Bool.exists_bool]
 refine .inl ⟨hPq,?_⟩
 intro hll
 refine ai (X:=Unit) [1,2,6,20] [] (df q.pat).length (fun _ _=>True) (fun _=>[]) (fun _=>[]) () (by simp) (by simp) (by omega) (by simp) (by simp) trivial (by simp) (by simp) ?_ ?_
 ·rintro k ⟨⟩ hk -
  obtain⟨x,hx⟩:∃x,(df q.pat)[k]? =some x:=⟨_,qwQ hk⟩
  obtain⟨_,hgx⟩:=qwP.1 hx
  have hxm:=qwS hx
  obtain⟨y,hy,rfl⟩:=qw3.1 hxm
  have hP:Pv ((AD y).cond,a,aN q.pat []):=⟨(hq.lv y hy).1,hal⟩
  simp[hk,hx,hgx,h4,hP, -Bool.forall_bool, -Bool.exists_bool]
  exact hP
 ·rintro⟨⟩ -
  simp[h5,h6,h7,hF,hS,hA, -Bool.forall_bool, -Bool.exists_bool]
end Go.Gv

namespace Go.Gv
open Go.Proofs
def F6:CC:=gq Tryz.f37 [] {} _
def Fm:List aj:=[.cell 4 true 13]
theorem Yd:ak Tryz.prog Av [] F6 Fm 30:=fo
def yk:CC:=gq Tryz.f70 [] {} _
def xf:List aj:=[.cell 4 true 7]
theorem OA:ak Tryz.prog qK [] yk xf 45:=fo
def tR:CC:=gq Tryz.f36 [2] { bx:=[1,43],cu:=[1] } _
def sX:List aj:=[.tmp 4]
theorem JH:ak Tryz.prog pH [2] tR sX 46:=fo
def jK:CC:=gq Tryz.f38 [2006006,2112011,1111111] { cu:=[2,5] } _
def jk:List aj:=[.cell 6 true 11]
theorem zV:ak Tryz.prog ew [2006006,2112011,1111111] jK jk 159:=fo
def pY:CC:=gq Tryz.f39 [] {} _
def pj:List aj:=[.cell 2 true 3]
theorem FC:ak Tryz.prog rk [] pY pj 13:=fo
def rK:CC:=gq Tryz.f14 [1049049,2050007] { bx:=[18],fz:=[(18,1)],cu:=[2,7,9] } _
def rf:List aj:=[.cell 4 true 26]
theorem HA:ak Tryz.prog tu [1049049,2050007] rK rf 52:=fo
end Go.Gv

namespace Go.Gv
open Cod (enc dec)
variable {S S0:Nat->Spc}
def qdH(n:Nat)(x:Cond×List B):Prop:=0 < n/\CS (n -1) x.1
def U5(n:Nat)(x:Pat×List B):Prop:=0 < n/\PD (n -1) x.1
def qhB(x:Pat)(l:List B):Prop:=l.length+iZ x<=1000000
def KY(n:Nat)(x:List Int×Int×List B):Prop:=x.2.1.toNat < n/\ -10<=x.2.1/\x.2.1<=100/\1<=x.2.2.length/\x.2.2.length<=1000000
theorem hU{q:Glob->Prop}{H:ab}{op mn mx:Int}{a b n g v:B}{f:Bool}{d e:D}(ar:List B)(ks:List Glob)(hd:FrzTo H d (enc ar))(he:FrzTo H e (enc ks))(hq:q ⟨op,a,b,n,g,v,f,mn,mx,ar,ks⟩):
 Fin enc q (.agg [.v (.int .i64 op), .v (.string a), .v (.string b), .v (.string n), .v (.string g), .v (.string v), .v (.bool f), .v (.int .i64 mn), .v (.int .i64 mx),d,e]) H:=by
 refine cm (⟨op,a,b,n,g,v,f,mn,mx,ar,ks⟩:Glob) ?_ hq
 rw[Kn]
 refine .agg rfl fun k x y hx hy=>?_
 rcases k with _|_|_|_|_|_|_|_|_|_|_|k
 ·cases hx;cases hy;exact .same _
 ·cases hx;cases hy;exact .same _
 ·cases hx;cases hy;exact .same _
 ·cases hx;cases hy;exact .same _
 ·cases hx;cases hy;exact .same _
 ·cases hx;cases hy;exact .same _
 ·cases hx;cases hy;exact .same _
 ·cases hx;cases hy;exact .same _
 ·cases hx;cases hy;exact .same _
 ·cases hx;cases hy;exact hd
 ·cases hx;cases hy;exact he
 ·simp at hx
end Go.Gv

namespace Go.Gv
open Cod (enc dec)
variable {S S0:Nat->Spc}
theorem SD(p:Pat):∀out,(ip p out).length<=out.length+iZ p:=by
 induction p using iR with|_ p ih=>?_
 intro out
 rw[ox,nn]
 split
 ·unfold BC
  split
  ·omega
  ·simp
 ·have:∀ (ks:List Pat) (o:List B),(∀k∈ks,k∈p.kids)->(ks.foldl (fun o k=>ip k o) o).length<=o.length+cA ks:=by
   intro ks
   induction ks with
   | nil=>intro o _;simp[cA]
   | cons k ks ihk=>
     intro o hk
     rw[qxK,cA]
     have h1:=ihk (ip k o) fun z hz=>hk z (by simp[hz])
     have:=ih k (hk k (by simp)) o
     omega
  have:=this p.kids out fun _ h=>h
  omega
theorem EM(ks:List Pat)(k:Nat)(lb:List B):((ks.take k).foldl (fun o k=>ip k o) lb).length<=lb.length+cA (ks.take k):=by
 generalize ks.take k=l
 induction l generalizing lb with
 | nil=>simp[cA]
 | cons a l ih=>
   rw[qxK,cA]
   have h1:=ih (ip a lb)
   have h2:=SD a lb
   omega
def U1(x:Cond×List B)(y:Cond):Prop:=y=wi x.2 x.1
abbrev DN(n:Nat):Spc:=aJ (a2 Cond (List B)) (qdH n) (enc (X:=Cond)) U1
theorem ND(n:Nat)(h1:S qK=DN n):aq yk xf S (a2 Cond (List B)) (qdH (n+1)) (enc (X:=Cond)) U1:=by
 rintro⟨c,lb⟩ ⟨_,hc⟩
 simp only at hc
 have hc:CS n c:=hc
 simp[yk,xf]
 intro b2 b4
 refine⟨fun ho _=>?_,fun ho hl=>?_⟩
 ·refine ai (X:=Unit) [2,4,13] [2,4] lb.length (fun k _=>∀z∈lb.take k,z≠c.lab) (fun _=>[]) (fun _=>[]) () (by simp) (by simp) (by omega) (by simp) (by simp) (by simp) (by simp) (by simp) ?_ ?_
  ·rintro k -hk hz
   obtain⟨x,hx⟩:=cj hk
   obtain⟨_,hgx⟩:=qwP.1 hx
   simp[hk,hx,hgx]
   refine⟨fun hxl=>fm c.kids (.same _) ?_,fun hxl z hz'=>?_⟩
   ·show Cond.mk _ _ _ _ _ _ _=wi lb c
    rw[Ez,jS,if_pos ho,if_pos (hxl ▸bh hx)]
   ·rw[br hx]at hz'
    rcases qwU.1 hz' with h|h
    ·exact hz z h
    ·simp at h;subst h;exact hxl
  ·rintro -hz
   rw[qxn]at hz
   simp
   refine fm [] (.nil _) ?_
   show _=wi lb c
   rw[jS,if_pos ho,if_neg (fun h=>hz _ h rfl)]
   rfl
 ·refine ai (X:=Value×List Cond) [1,2,4,29] [2,4] c.kids.length (fun k x=>x.2=(c.kids.take k).map (wi lb)) (fun x=>[(7, .own 40 x.1)]) (fun x=>[(40, .row x.1 DB 7 (x.2.map enc))]) (.slice none 0 0, []) (by simp) (by simp) (by omega) (by simp) (by simp) (by simp) (by simp) (by simp[isNilRow]) ?_ ?_
  ·rintro k ⟨v,ks⟩ hk hkl
   simp only at hkl
   obtain⟨x,hx⟩:=cj hk
   obtain⟨_,hgx⟩:=qwP.1 hx
   obtain⟨m,hm,hx1⟩:=qjU hc (bh hx)
   have hp:qdH n (x,lb):=⟨by omega,by rw[hm];exact hx1⟩
   simp[hk,hx,hgx,h1,hp]
   have:=qjT hc
   have hkl2:ks.length=k:=by rw[hkl,qxC,qxj];omega
   refine fun y hy=>⟨by omega,by omega,fun v=> .inl ?_⟩
   obtain rfl:y=wi lb x:=hy
   rw[hkl,List.map_map,List.map_take,qyk]
   simp[hx]
  ·rintro⟨v,ks⟩ hkl
   simp only at hkl
   simp
   rw[qxn]at hkl
   refine fm ks (gh DB (by simp)) ?_
   show _=wi lb c
   rw[jS,if_neg ho,hkl]
abbrev BF:Spc:=aJ (a2 Cond (List B)) (fun x=>∃n,CS n x.1) (enc (X:=Cond)) U1
def Pu(x:Pat×List B)(y:Pat):Prop:=y=ln x.2 x.1
abbrev Mq(n:Nat):Spc:=aJ (a2 Pat (List B)) (U5 n) (enc (X:=Pat)) Pu
theorem Xu(n:Nat)(h1:S qK=BF)(h2:S Av=Mq n):aq F6 Fm S (a2 Pat (List B)) (U5 (n+1)) (enc (X:=Pat)) Pu:=by
 rintro⟨p,lb⟩ ⟨_,hp⟩
 simp only at hp
 have hp:PD n p:=hp
 have hcd:=qe2 hp
 have hpl:=qiN hp
 simp[F6,Fm,h1]
 intro b2 b4
 refine⟨hcd,fun c hc _=>?_⟩
 refine ai (X:=Value×List Pat) [1,2,4,14] [2,4] p.kids.length (fun k x=>x.2=(p.kids.take k).map (ln lb)) (fun x=>[(5, .own 25 x.1)]) (fun x=>[(25, .row x.1 eK 13 (x.2.map enc))]) (.slice none 0 0, []) (by simp) (by simp) (by omega) (by simp) (by simp) (by simp) (by simp) (by simp[isNilRow]) ?_ ?_
 ·rintro k ⟨v,ks⟩ hk hkl
  simp only at hkl
  obtain⟨x,hx⟩:=cj hk
  obtain⟨_,hgx⟩:=qwP.1 hx
  obtain⟨m,hm,hx1⟩:=qiO hp (bh hx)
  have hq:U5 n (x,lb):=⟨by omega,by rw[hm];exact hx1⟩
  have hkl2:ks.length=k:=by rw[hkl,qxC,qxj];omega
  simp[hk,hx,hgx,h2,hq]
  refine fun y hy=>⟨by omega,by omega,fun v=> .inl ?_⟩
  obtain rfl:y=ln lb x:=hy
  rw[hkl,List.map_map,List.map_take,qyk]
  simp[hx]
 ·rintro⟨v,ks⟩ hkl
  simp only at hkl
  rw[qxn]at hkl
  simp
  refine A9 c.kids ks (.same _) (gh eK (by simp)) ?_
  show _=ln lb p
  rw[qP,<-show c=wi lb p.cond from hc,hkl,Ez]
abbrev I1:Spc:=aJ (a2 Pat (List B)) (fun x=>∃n,PD n x.1) (enc (X:=Pat)) Pu
abbrev BG:Spc:=aJ (aT (a2 Int (List B))) (fun x=> -10<=x.2.1/\x.2.1<=100/\x.2.2.length<=1000) (enc (X:=Pat)) KW
def qdE(x:Pat)(l r:List B):Prop:=r=ip x l
abbrev Rz(n:Nat):Spc:=qhh (X:=Pat) (Y:=B) (fun x l=>eG x<=n/\qhB x l) qdE au 1
abbrev i_BoundA2:Spc:=qhh (X:=Pat) (Y:=B) qhB qdE au 1
theorem PZ(n:Nat)(h1:S pH=Rz n):Pr (X:=Pat) (Y:=B) tR sX S (fun x l=>eG x<=n+1/\qhB x l) qdE au 1:=by
 rintro v lb p ⟨hd,hl⟩
 have hk:∀k∈p.kids,eG k<=n:=fun k h=>by have:=jq h;have:eG p<=n+1:=hd;omega
 have hl:lb.length+iZ p<=1000000:=hl
 have hpn:=nn p
 simp[tR,sX]
 refine aS (X:=Unit) [1,2] [1] (fun _=>p.op=1->p.lab=E0) (fun _=>[]) (fun _=>[]) ?_ ?_
 ·simp
  refine⟨fun ho=>⟨fun hn _=>?_,fun h _=>h⟩,fun ho h=>absurd h ho⟩
  refine ai (X:=Unit) [1,2,17] [1] lb.length (fun k _=>∀z∈lb.take k,z≠p.lab) (fun _=>[]) (fun _=>[]) () (by simp) (by simp) (by omega) (by simp) (by simp) (by simp) (by simp) (by simp) ?_ ?_
  ·rintro k -hkk hz
   obtain⟨x,hx⟩:=cj hkk
   obtain⟨_,hgx⟩:=qwP.1 hx
   simp[hkk,hx,hgx]
   refine⟨fun hxl=>jW lb (by simp) ?_,fun hxl z hz'=>?_⟩
   ·show lb=ip p lb
    rw[ox,if_pos ⟨ho,hn⟩,BC,if_pos (hxl ▸bh hx)]
   ·rw[br hx]at hz'
    rcases qwU.1 hz' with h|h
    ·exact hz z h
    ·simp at h;subst h;exact hxl
  ·rintro -hz
   rw[qxn]at hz
   simp
   refine⟨by omega,by omega,fun v=>jW (lb++ [p.lab]) (by simp) ?_⟩
   show _=ip p lb
   rw[ox,if_pos ⟨ho,hn⟩,BC,if_neg fun h=>hz _ h rfl]
 ·rintro -hno
  simp
  intro hkl
  refine ai (X:=Value×List B) [35] [] p.kids.length (fun k x=>x.2=(p.kids.take k).foldl (fun o k=>ip k o) lb) (fun x=>[(1, .own 1 x.1)]) (fun x=>[(1, .row x.1 au 1 (x.2.map enc))]) (v,lb) (by simp) (by simp) (by omega) (by simp) (by simp) (by simp) (by simp) (by simp) ?_ ?_
  ·rintro k ⟨v,ls⟩ hkk hls
   simp only at hls
   obtain⟨x,hx⟩:=cj hkk
   obtain⟨_,hgx⟩:=qwP.1 hx
   have hq:qhB x ls:=by
    have h2:=EM p.kids k lb
    have h3:=EM (p.kids.drop k) 1 ls
    rw[<-hls]at h2
    have h4:cA (p.kids.take k) +cA (p.kids.drop k)=cA p.kids:=by rw[<-A3,qxs]
    rw[gL hx,cA]at h4
    show ls.length+iZ x<=_
    omega
   have hq2:=hk x (bh hx)
   simp[hkk,hx,hgx,h1,hq,hq2]
   intro v' l' hy
   obtain rfl:l'=ip x ls:=hy
   refine .inl ?_
   rw[br hx,qyN,<-hls]
   rfl
  ·rintro⟨v,ls⟩ hls
   simp only at hls
   rw[qxn]at hls
   simp
   refine jW ls (by simp) ?_
   show ls=ip p lb
   rw[ox,if_neg fun h=>h.2 (hno h.1),hls]
abbrev qcq:Spc:=qk2 (Y:=B) (aE Pat (aD a0)) (fun x=>x.2.1= .v (.slice none 0 0)/\qhB x.1 []) (fun x r=>qdE x.1 [] r) au 1
theorem P0(h1:S pH=i_BoundA2):SM (Y:=B) tR sX S (aE Pat (aD a0)) (fun x=>x.2.1= .v (.slice none 0 0)/\qhB x.1 []) (fun x r=>qdE x.1 [] r) au 1:=by
 rintro⟨p,d,⟨⟩⟩ ⟨hd,hl⟩
 have hd:d= .v (.slice none 0 0):=hd
 subst hd
 have hl:0+iZ p<=1000000:=hl
 have hpn:=nn p
 simp[tR,sX]
 refine aS (X:=Unit) [1,2] [] (fun _=>p.op=1->p.lab=E0) (fun _=>[]) (fun _=>[]) ?_ ?_
 ·simp
  refine⟨fun ho=>⟨fun hn=>?_,fun h _=>h⟩,fun ho h=>absurd h ho⟩
  refine ai (X:=Unit) [1,2] [] 0 (fun _ _=>True) (fun _=>[]) (fun _=>[]) () (by simp) (by simp) (by omega) (by simp) (by simp) trivial (by simp) (by simp) ?_ ?_
  ·rintro k -hkk -
   exact absurd hkk (Nat.not_lt_zero _)
  ·rintro - -
   simp
   refine fun v=>jW [p.lab] (by simp) ?_
   show _=ip p []
   rw[ox,if_pos ⟨ho,hn⟩,BC,if_neg (by simp)]
   rfl
 ·rintro -hno
  simp
  intro hkl
  refine ai (X:=Value×List B) [35] [] p.kids.length (fun k x=>x.2=(p.kids.take k).foldl (fun o k=>ip k o) []) (fun x=>[(1, .own 1 x.1)]) (fun x=>[(1, .row x.1 au 1 (x.2.map enc))]) (.slice none 0 0, []) (by simp) (by simp) (by omega) (by simp) (by simp) (by simp) (by simp) (by simp[isNilRow]) ?_ ?_
  ·rintro k ⟨v,ls⟩ hkk hls
   simp only at hls
   obtain⟨x,hx⟩:=cj hkk
   obtain⟨_,hgx⟩:=qwP.1 hx
   have hq:qhB x ls:=by
    have h2:=EM p.kids k []
    have h3:=EM (p.kids.drop k) 1 ls
    rw[<-hls,qyT]at h2
    have h4:cA (p.kids.take k) +cA (p.kids.drop k)=cA p.kids:=by rw[<-A3,qxs]
    rw[gL hx,cA]at h4
    show ls.length+iZ x<=_
    omega
   simp[hkk,hx,hgx,h1,hq]
   intro v' l' hy
   obtain rfl:l'=ip x ls:=hy
   refine .inl ?_
   rw[br hx,qyN,<-hls]
   rfl
  ·rintro⟨v,ls⟩ hls
   simp only at hls
   rw[qxn]at hls
   simp
   refine jW ls (by simp) ?_
   show ls=ip p []
   rw[ox,if_neg fun h=>h.2 (hno h.1),hls]
abbrev s_Bound2:Spc:=qkM qcq i_BoundA2
end Go.Gv

namespace Go.Gv
open Cod (enc dec)
variable {S S0:Nat->Spc}
def U3(x:List Int×Int×List B)(y:Glob):Prop:=GG x.2.2 x.2.1.toNat y
def qwJ(l:List B)(g:Glob):Prop:=g=GlobE\/GG l 2 g
theorem qug{i:Nat}{a:B}(h:[(⟨#[97]⟩:B),⟨#[98,124,99]⟩,⟨#[46]⟩][i]? =some a):a∈Xj:=bh h
theorem quf{i:Nat}{a:B}(h:[(⟨#[83]⟩:B),⟨#[78,80]⟩,⟨#[86,80]⟩][i]? =some a):a∈Xh:=bh h
theorem que{i:Nat}{a:B}(h:[(⟨#[111,98,106]⟩:B),⟨#[100,101,116]⟩,⟨#[]⟩][i]? =some a):a∈SO:=bh h
abbrev yw(n:Nat):Spc:=aJ (aT (a2 Int (List B))) (KY n) (enc (X:=Glob)) U3
theorem Hd(n:Nat)(h1:S bX=s_m_Next)(h2:S qL=we)(h3:S ew=yw n):aq jK jk S (aT (a2 Int (List B))) (KY (n+1)) (enc (X:=Glob)) U3:=by
 rintro⟨L,deep,lb⟩ ⟨hn,hd0,hd1,hlb0,hlb⟩
 simp only at hn hd0 hd1 hlb0 hlb
 simp[jK,jk,h1]
 intro b6 k0 hk0 hk1
 refine aS (X:=Int) [0,1,2,6] [6] (fun k=>0<=k/\k < 13/\(deep < 1->k < 10)) (fun k=>[(7,enc k)]) (fun _=>[]) ?_ ?_
 ·simp
  have:k0.tmod 10=k0 % 10:=Int.tmod_eq_emod_of_nonneg hk0
  rw[this]
  omega
 rintro k ⟨q0,q1,q2⟩
 simp[h1]
 refine fun _=>⟨by omega,fun i hi=>⟨by omega,by omega,fun a ha _=>⟨by omega,fun j hj=>⟨by omega,by omega,fun c hc=>?_⟩⟩⟩⟩
 refine aS (X:=Unit) [0,1,2,6,7] [6] (fun _=>11<=k) (fun _=>[]) (fun _=>[]) ?_ ?_
 ·have hrec:1<=deep->KY n (L,deep -1,lb):=fun h=>⟨by show(deep -1).toNat < n;omega,by show -10<=deep -1;omega,by show deep -1<=100;omega,hlb0,hlb⟩
  have ma:a∈lb:=bh ha
  have mc:c∈lb:=bh hc
  have hdn:1<=deep->deep.toNat=(deep -1).toNat+1:=fun h=>by omega
  simp[h1,h2,h3,Mj,Qk,kX,qi, -Bool.forall_bool]
  refine⟨fun _=>hU [] [] (.nil _) (.nil _) (.bound _ a ma),fun _=>⟨fun _ y y0 y1=>⟨y0,y1,fun v hv z _ _=>hU [] [] (.nil _) (.nil _) (.val _ a v _ ma (qug hv))⟩,fun _=>⟨fun _ y y0 y1=>⟨y0,y1,fun g hg=>hU [] [] (.nil _) (.nil _) (.same _ a c g ma mc (qgs hg))⟩,fun _=>⟨fun _ y y0 y1=>⟨by simp only[InR];omega,fun z z0 z1=>⟨by simp only[InR];omega,hU [] [] (.nil _) (.nil _) (.dist _ a c _ _ ma mc (by omega) (by omega) (by omega) (by omega))⟩⟩,fun _=>⟨fun _ y y0 y1=>⟨trivial,fun t ht=>hU [] [] (.nil _) (.nil _) (.reg _ a c t ma mc ht)⟩,fun _=>⟨fun _=>hU [] [] (.nil _) (.nil _) (.head _ 6 a c (.inl rfl) ma mc),fun _=>⟨fun _=>hU [] [] (.nil _) (.nil _) (.head _ 7 a c (.inr rfl) ma mc),fun _=>⟨fun _ b11 y y0 y1=>?_,fun _=>⟨fun _ y y0 y1=>⟨y0,y1,fun t ht=>hU [] [] (.nil _) (.nil _) (.node _ a c t ma mc (quf ht))⟩,fun _=>⟨fun _ y y0 y1 z z0 z1=>⟨by simp only[InR];omega,hU [] [] (.nil _) (.nil _) (.depth _ a _ _ ma (by omega) (by omega) (by omega) (by omega))⟩,fun _=>⟨fun hk10=>⟨by simp only[InR];omega,hrec (by omega),fun g=>?_⟩,fun _=>by omega⟩⟩⟩⟩⟩⟩⟩⟩⟩⟩⟩
  ·refine mj (X:=Int×Value×List B) [0,6,11] [6] [] [] [] [] (fun x=>(0<=x.1/\x.1+x.2.2.length<=2)/\∀z∈x.2.2,z∈SO) (fun x=>[(12,enc x.1)]) (fun x=>[(11, .box b11 [.v (.int .i64 8), .v (.string a), .v (.string c), .v (.string ⟨#[]⟩), .v (.string ⟨#[]⟩), .v (.string ⟨#[]⟩), .v (.bool false), .v (.int .i64 0), .v (.int .i64 0), .own 111 x.2.1, .v (.slice none 0 0)]),(111, .row x.2.1 au 1 (x.2.2.map enc))]) (fun x=>x.1.toNat) (y, .slice none 0 0, []) [11,111] (fun _=>rfl) (by decide) (by decide) ?_ ?_ ?_ ?_
   ·exact⟨⟨y0,by simp;omega⟩,by simp⟩
   ·simp
   ·simp[isNilRow]
    exact .nilown 111
   ·rintro⟨i,v,l⟩ ⟨⟨e1,e2⟩,e3⟩
    simp only at e1 e2 e3
    simp[h1,Qk,kX,qi]
    exact⟨fun hi z z0 z1=>⟨z0,z1,fun w hw=>⟨by omega,by omega,fun v=>⟨by simp only[InR];omega,i -1,v,l++ [w],⟨⟨by omega,by simp;omega⟩,fun z hz=>(qwU.1 hz).elim (e3 z) fun h=>by simp at h;subst h;exact que hw⟩,⟨rfl, .inl (.inl rfl), .inl (.inl (by simp))⟩,by omega⟩⟩⟩,fun hi=>hU l [] (gh au (by simp)) (.nil _) (.path _ a c l ma mc (by omega) e3)⟩
  ·exact fun hg=>hU [] [g] (.nil _) (by simp) (by show GG lb deep.toNat _;rw[hdn (by omega)];exact .not _ _ hg)
 ·rintro -hk
  have hrec:KY n (L,deep -1,lb):=⟨by show(deep -1).toNat < n;omega,by show -10<=deep -1;omega,by show deep -1<=100;omega,hlb0,hlb⟩
  have hdn:deep.toNat=(deep -1).toNat+1:=by omega
  simp[h3,hrec]
  exact⟨by simp only[InR];omega,by simp only[InR];omega,by simp only[InR];omega,fun y hy=>⟨by simp only[InR];omega,fun z hz=>hU [] [y,z] (.nil _) (by simp) (by show GG lb deep.toNat _;rw[hdn];exact .two _ _ _ _ (by omega) hy hz)⟩⟩
abbrev wg:Spc:=aJ (aT (a2 Int (List B))) (fun x=>∃n,KY n x) (enc (X:=Glob)) U3
abbrev GE:Spc:=aJ (aT a0) bH (enc (X:=sk)) (fun _ y=>GF y)
theorem PY(h1:S bX=s_m_Next)(h2:S qL=we):aq pY pj S (aT a0) bH (enc (X:=sk)) (fun _ y=>GF y):=by
 rintro⟨L,⟨⟩⟩ -
 simp[pY,pj,h1,h2]
 refine fun b y y0 y1=>⟨by simp only[InR];omega,fun z z0 z1 u u0 u1=>⟨trivial,fun t ht=>?_⟩⟩
 exact cm (⟨1+y,decide (z=2),t⟩:sk) (by simp) ⟨by show 1+y=1\/1+y=2\/1+y=3;omega,ht⟩
def KV(x:List Int×Int)(q:Qry):Prop:=GQ x.2.toNat q
abbrev I2:Spc:=aJ (aT (a1 Int)) (fun x=>0<=x.2/\x.2<=5) (enc (X:=Qry)) KV
theorem Tj(h1:S bX=s_m_Next)(h2:S fW=BG)(h3:S pH=s_Bound2)(h4:S Av=I1)(h5:S ew=wg)(h6:S rk=GE):
 aq rK rf S (aT (a1 Int)) (fun x=>0<=x.2/\x.2<=5) (enc (X:=Qry)) KV:=by
 rintro⟨L,deep⟩ ⟨hd0,hd1⟩
 simp only at hd0 hd1
 simp[rK,rf,h1]
 intro b4
 refine aS (X:=List B) [0,1,4] [4] (fun l=>qdP l/\l.length<=2) (fun l=>[(5,enc l)]) (fun _=>[]) ?_ ?_
 ·simp[h1]
  exact fun _ _ _=>⟨fun _=>⟨[qj5,qld],⟨fun l hl=>by simpa using hl,by simp⟩,by simp[qj5,qld]⟩,fun _ l hl=>by simp at hl⟩
 rintro lb ⟨hlb,hll⟩
 simp[h1,h2]
 refine⟨⟨by omega,by omega,by omega⟩,fun y hy b=>?_⟩
 have hw:WP lb deep.toNat y:=hy.1.1
 have hpd:PD deep.toNat y:=hy.1.2
 have hnum:iZ y<=1000000:=by
  have:=(Vc _ y hw (by omega)).2.2
  have h2:2^ (deep.toNat+1)<=64:=Nat.pow_le_pow_right (n:=2) (by omega) (show deep.toNat+1<=6 by omega)
  omega
 have hB:qhB y []:=by show 0+iZ y<=_;omega
 have hbd:∃n,PD n y:=⟨_,hpd⟩
 simp[h3,hB]
 refine .inl fun l hl=>?_
 have hlq:l=ip y []:=hl
 have hlm:l.length<=0+iZ y:=by rw[hlq];exact SD y []
 simp[h4,hbd]
 intro p hp z z0 z1 b7
 have hp:p=ln l y:=hp
 have hq:∀g fs s,(g=GlobE\/GG l 2 g)->(fs.length<=1/\∀f∈fs,GF f)->(0<=s/\s < 4)->KV (L,deep) ⟨p,g,fs,s⟩:=by
  intro g fs s hg hfs hs
  have hbl:ip p []=l:=by rw[hp,qc3,<-hlq]
  refine⟨⟨lb,hlb,by show WP lb deep.toNat p;rw[hp];exact qd2 _ _ hw⟩,?_,by show g=GlobE\/GG (ip p []) 2 g;rw[hbl];exact hg,hfs,hs⟩
  show ∀y∈aM p,GC (ip p []) 1 y.cond
  rw[hbl,hp,Rs]
  intro x hx
  obtain⟨u,hu,rfl⟩:=qw3.1 hx
  rw[qP]
  exact qjp (hy.2 u hu)
 refine gp (X:=Glob) [0,4] [4] [] [] (qwJ l) (fun _=>[(7, .bptr 7 b7 0)]) (fun g=>[(7, .box b7 [.v (.int .i64 p.op), .v (.int .i64 p.cond.op), .v (.string p.cond.name), .v (.string p.cond.arg), .v (.string p.cond.val), .v (.string p.cond.lab), .v (.bool p.cond.fold),enc p.cond.kids, .v (.string p.lab), .v (.string p.reg), .v (.int .i64 p.mn), .v (.int .i64 p.mx),enc p.kids, .v (.int .i64 g.op), .v (.string g.a), .v (.string g.b), .v (.string g.name), .v (.string g.arg), .v (.string g.val), .v (.bool g.fold), .v (.int .i64 g.mn), .v (.int .i64 g.mx),enc g.args,enc g.kids, .v (.slice none 0 0), .v (.int .i64 z)])]) [7] (fun _=>rfl) (by decide) ?_ ?_
 ·simp[h1,h5, -Bool.forall_bool]
  refine fun _=>⟨fun hl0 u u0 u1=>⟨fun _=>⟨⟨3,by show(2:Int).toNat < 3;decide,by show -10<=(2:Int);decide,by show(2:Int)<=100;decide,hl0,by show l.length<=1000000;omega⟩,fun g hg=>⟨g, .inr hg, .inl (.inl ⟨rfl,rfl,rfl,rfl,rfl,rfl,rfl,rfl,rfl,rfl,rfl⟩)⟩⟩,fun _=>⟨⟨0,⟨#[]⟩,⟨#[]⟩,⟨#[]⟩,⟨#[]⟩,⟨#[]⟩,false,0,0, [], []⟩, .inl rfl, .inl ⟨rfl,rfl,rfl,rfl,rfl,rfl,rfl,rfl,rfl,rfl,rfl⟩⟩⟩,fun _=>⟨⟨0,⟨#[]⟩,⟨#[]⟩,⟨#[]⟩,⟨#[]⟩,⟨#[]⟩,false,0,0, [], []⟩, .inl rfl, .inl ⟨rfl,rfl,rfl,rfl,rfl,rfl,rfl,rfl,rfl,rfl,rfl⟩⟩⟩
 rintro g hg
 refine gp (X:=List sk) [4] [4] [49] [] (fun fs=>fs.length<=1/\∀f∈fs,GF f) (fun _=>[(7, .bptr 7 b7 0)]) (fun fs=>[(7, .box b7 [.v (.int .i64 p.op), .v (.int .i64 p.cond.op), .v (.string p.cond.name), .v (.string p.cond.arg), .v (.string p.cond.val), .v (.string p.cond.lab), .v (.bool p.cond.fold),enc p.cond.kids, .v (.string p.lab), .v (.string p.reg), .v (.int .i64 p.mn), .v (.int .i64 p.mx),enc p.kids, .v (.int .i64 g.op), .v (.string g.a), .v (.string g.b), .v (.string g.name), .v (.string g.arg), .v (.string g.val), .v (.bool g.fold), .v (.int .i64 g.mn), .v (.int .i64 g.mx),enc g.args,enc g.kids,enc fs, .v (.int .i64 z)])]) [7] (fun _=>rfl) (by decide) ?_ ?_
 ·simp[h1]
  intro u u0 u1
  have ut:u.tdiv 2=u/2:=Int.tdiv_eq_ediv_of_nonneg u0
  rw[ut]
  refine⟨by simp only[InR];omega,?_⟩
  refine mj (X:=Int×Value×List sk) [0,4,7] [4] [] [] [] [] (fun x=>(0<=x.1/\x.1+x.2.2.length<=1)/\∀f∈x.2.2,GF f) (fun x=>[(8,enc x.1)]) (fun x=>[(7, .box b7 [.v (.int .i64 p.op), .v (.int .i64 p.cond.op), .v (.string p.cond.name), .v (.string p.cond.arg), .v (.string p.cond.val), .v (.string p.cond.lab), .v (.bool p.cond.fold),enc p.cond.kids, .v (.string p.lab), .v (.string p.reg), .v (.int .i64 p.mn), .v (.int .i64 p.mx),enc p.kids, .v (.int .i64 g.op), .v (.string g.a), .v (.string g.b), .v (.string g.name), .v (.string g.arg), .v (.string g.val), .v (.bool g.fold), .v (.int .i64 g.mn), .v (.int .i64 g.mx),enc g.args,enc g.kids, .own 49 x.2.1, .v (.int .i64 z)]),(49, .row x.2.1 Mg 3 (x.2.2.map enc))]) (fun x=>x.1.toNat) (u/2, .slice none 0 0, []) [7,49] (fun _=>rfl) (by decide) (by decide) ?_ ?_ ?_ ?_
  ·exact⟨⟨by show 0<=u/2;omega,by simp;omega⟩,by simp⟩
  ·simp
  ·simp[isNilRow]
   exact .nilown 49
  ·rintro⟨i,v,fs⟩ ⟨⟨e1,e2⟩,e3⟩
   simp only at e1 e2 e3
   simp[h6]
   refine⟨fun hi=>⟨trivial,fun y hy=>⟨by omega,by omega,fun v=>⟨by simp only[InR];omega,i -1,v,fs++ [y],⟨⟨by omega,by simp;omega⟩,fun z hz=>(qwU.1 hz).elim (e3 z) fun h=>by simp at h;subst h;exact hy⟩,⟨rfl, .inl (.inl rfl), .inl (.inl (by simp))⟩,by omega⟩⟩⟩,fun hi=>⟨fs,⟨by omega,e3⟩, .inl (gh Mg (by simp[GV]))⟩⟩
 ·rintro fs hfs
  simp
  exact cm (⟨p,g,fs,z⟩:Qry) (by simp) (hq _ _ _ hg hfs ⟨z0,z1⟩)
end Go.Gv

namespace Go.Gv
open Go.Proofs
theorem qfs{lb:List B} :∀n p,WP lb n p->∀out:List B,aN p out=ip p out:=by
 refine If fun n p hp ih out=>?_
 have hk:∀ks:List Pat,(∀k∈ks,k∈p.kids)->∀o:List B,ks.foldl (fun o k=>aN k o) o=ks.foldl (fun o k=>ip k o) o:=by
  intro ks
  induction ks with
  | nil=>intro _ o;rfl
  | cons k ks ihk=>
    intro h o
    obtain⟨m,_,_,hi⟩:=ih k (h k (by simp))
    rw[qxK,qxK,hi,ihk fun z hz=>h z (by simp[hz])]
 have hno:p.op≠1->p.lab=E0->aN p out=ip p out:=fun h1 h2=>by
  rw[qG,ox,qe,if_pos h2,if_neg (fun h=>h1 h.1)]
  exact hk _ (fun _ h=>h) _
 rcases zd hp with(⟨h1,h2,h3,h4,h5,h6⟩|⟨h1,h2,h3,h4,h5,h6,h7⟩)|⟨m,rfl,(⟨h1,h2,h3,h4,h5,h6,a,b,h7,_⟩|⟨h1,h2,h3,h4,h5,a,h7,_⟩)⟩
 ·rw[qG,ox,h6,qe]
  by_cases h:p.lab=E0
  ·rw[if_pos h,if_neg (fun x=>x.2 h)];rfl
  ·rw[if_neg h,if_pos ⟨h1,h⟩];rfl
 ·exact hno (by omega) h3
 ·exact hno (by omega) h3
 ·exact hno (by omega) h3
theorem Zl{out:List B}{x y:B}(h:y∈out):y∈qe out x:=by
 unfold qe BC
 split
 ·exact h
 ·split
  ·exact h
  ·simp[h]
theorem Zk{out:List B}{x:B}(h:x≠E0):x∈qe out x:=by
 unfold qe BC
 rw[if_neg h]
 split
 ·assumption
 ·simp
theorem qgw{out:List B}{x:B}(h:out.Nodup):(qe out x).Nodup:=by
 unfold qe BC
 split
 ·exact h
 ·split
  ·exact h
  ·rename_i hx
   rw[qx7]
   exact⟨h,by simp,fun a ha b hb=>by simp at hb;subst hb;exact fun e=>hx (e ▸ha)⟩
theorem YH(p:Pat):∀ (out:List B) (y:B),y∈out->y∈aN p out:=by
 induction p using iR with|_ p ih=>?_
 intro out y h
 rw[qG]
 have:∀ks:List Pat,(∀k∈ks,k∈p.kids)->∀o:List B,y∈o->y∈ks.foldl (fun o k=>aN k o) o:=by
  intro ks
  induction ks with
  | nil=>intro _ o h;exact h
  | cons k ks ihk=>intro hk o h;exact ihk (fun z hz=>hk z (by simp[hz])) _ (ih k (hk k (by simp)) o y h)
 exact this _ (fun _ h=>h) _ (Zl h)
theorem qfr(p:Pat):∀ (out:List B),out.Nodup->(aN p out).Nodup:=by
 induction p using iR with|_ p ih=>?_
 intro out h
 rw[qG]
 have:∀ks:List Pat,(∀k∈ks,k∈p.kids)->∀o:List B,o.Nodup->(ks.foldl (fun o k=>aN k o) o).Nodup:=by
  intro ks
  induction ks with
  | nil=>intro _ o h;exact h
  | cons k ks ihk=>intro hk o h;exact ihk (fun z hz=>hk z (by simp[hz])) _ (ih k (hk k (by simp)) o h)
 exact this _ (fun _ h=>h) _ (qgw h)
theorem YG(p:Pat):∀q∈ri p,q.lab≠E0->∀out:List B,q.lab∈aN p out:=by
 induction p using iR with|_ p ih=>?_
 intro q hq hl out
 rw[qG]
 have hm:∀ks:List Pat,∀o:List B,q.lab∈o->q.lab∈ks.foldl (fun o k=>aN k o) o:=by
  intro ks
  induction ks with
  | nil=>intro o h;exact h
  | cons k ks ihk=>intro o h;exact ihk _ (YH k o _ h)
 cases p with
 | mk op cond lab reg mn mx ks=>
   rw[ri]at hq
   rcases qwT.1 hq with rfl|hq
   ·exact hm _ _ (Zk hl)
   ·obtain⟨k,hk,hq⟩:=ur hq
    have:∀l:List Pat,k∈l->∀o:List B,q.lab∈l.foldl (fun o k=>aN k o) o:=by
     intro l
     induction l with
     | nil=>intro h;cases h
     | cons z l ihl=>
       intro h o
       rw[qxK]
       rcases qwT.1 h with rfl|h
       ·exact hm _ _ (ih k hk q hq hl _)
       ·exact ihl h _
    exact this _ hk _
theorem Wl{n:Nat}{q:Qry}(h:GQ n q):aN q.pat []=ip q.pat []/\(aN q.pat []).length<=2:=by
 obtain⟨lb,hl,hw⟩:=h.lab
 have e:=qfs n q.pat hw []
 refine⟨e,?_⟩
 have hm:∀y∈aN q.pat [],y=qj5\/y=qld:=fun y hy=>by
  rw[e]at hy
  rcases qgo n q.pat hw [] y hy with h|h
  ·cases h
  ·exact hl y h
 refine ML (f:=fun y=>if y=qj5 then 0 else 1) (qfr q.pat [] qyy) (fun y _=>by split <;> omega) fun x hx y hy=>?_
 rcases hm x hx with rfl|rfl <;> rcases hm y hy with rfl|rfl
 ·exact fun _=>rfl
 ·rw[if_pos rfl,if_neg (by decide)];exact fun h=>by cases h
 ·rw[if_neg (by decide),if_pos rfl];exact fun h=>by cases h
 ·exact fun _=>rfl
theorem qbE{n:Nat}{c:Corpus}{q:Qry}(hc:qhC c)(hq:GQ n q)(hn:n<=5):G2 Mb c q:=by
 obtain⟨lb,hl,hw⟩:=hq.lab
 have hpat:pq bw q.pat=true:=qd1 hl qh5 n q.pat hw (by omega)
 obtain⟨hlab,hl2⟩:=Wl hq
 obtain⟨_,hs1,hs2⟩:=Vc n q.pat hw hn
 have h3:(3:Int) ^n<=243:=by
  rcases n with _|_|_|_|_|_|n
  all_goals first|decide|omega
 have h2:2^ (n+1)<=64:=by
  rcases n with _|_|_|_|_|_|n
  all_goals first|decide|omega
 have hpn:iZ q.pat<=1000000:=by omega
 have hl3:(aN q.pat []).length<=3:=by omega
 have he:eV Ac q.pat=true/\eV xt q.pat=true:=by
  unfold pq at hpat
  simp only[qwX]at hpat
  exact⟨hpat.1.1.2,hpat.2⟩
 have hN:kW vP q.pat:=sv (Ki q.pat he.1) fun q h=>(A5 q).1 h
 refine⟨⟨by rw[hlab];exact hq.glob,hq.filts.2,hq.strat,hpat,by omega,hl3,hpn,hc.ok.1,fun x hx=>?_⟩,⟨hc.ok.sz,by have:=hc.few;omega,hpat,hl3,hpn,fun t ht=>?_⟩⟩
 ·have hg:=hq.cond x hx
  rw[hlab,hc.ok.1]
  exact⟨qiV hg (by omega),qi0 hg⟩
 ·intro z hz
  refine⟨hN z hz,Ki q.pat he.2 z hz,fun h=>fK (YG q.pat z hz h []),fun h1 s hs hlt=>?_⟩
  have hg:=hq.cond z (Yp q.pat hN z hz h1)
  rw[<-hlab]at hg
  have hen:(LC c (aN q.pat []) t).en<=c.toks.length:=by show min t.e (c.toks.length:Int)<=_;omega
  exact qmP (E:=⟨(LC c (aN q.pat []) t).c,s.p,(LC c (aN q.pat []) t).lb,Pn (LC c (aN q.pat []) t) s⟩) ⟨hc.ok,hs.1,by show s.p < (c.toks.length:Int);omega,WT _ s⟩ hg (by decide)
end Go.Gv

namespace Go.Gv
open Go.Proofs
open Cod (enc dec)
variable {S S0:Nat->Spc}
theorem qfW{c:Corpus}{lb:List B}{p:Pat}{a:List Match}(h:SY c lb p a)(k:Int):Gn c lb p k (a.filter fun m=>decide (m.b=k)):=
 ⟨h.1.filter _,fun m=>by rw[qx6,h.2,decide_eq_true_iff];exact and_comm⟩
abbrev qis:Spc:=aJ (a2 (List Int) (List Int)) (fun _=>True) enc (fun(_:List Int×List Int) (y:Bool)=>y=true)
theorem qhV(h1:S O0=s_m_New)(h2:S ro=s_m_Corpus)(h3:S tu=I2)(h4:S ig=TP Mb)(h5:S xR=QA Mb)(h6:S vv=Ms)(h7:S xK=N1):aq oo ng S (a2 (List Int) (List Int)) (fun _=>True) enc (fun(_:List Int×List Int) (y:Bool)=>y=true):=by
 rintro⟨l,m⟩ -
 simp[oo,ng,h1,h2,h3, -Bool.forall_bool, -Bool.exists_bool]
 refine fun c hw hk hl L q hq b1 b2=>?_
 have hc:=qmv hw hk hl
 have hM:G2 Mb c q:=qbE hc hq (by show 2<=5;decide)
 have hl2:=(Wl hq).2
 have hfew:=hM.f.few
 have htl:(c.toks.length:Int)<=9223372036854775807:=by omega
 clear h1 h2 h3 hw hk hl hq
 simp[h4,hM, -Bool.forall_bool, -Bool.exists_bool]
 intro a e hQ
 rcases hQ with⟨e0,ha,hla⟩|⟨e0,e1,k,l,_,_⟩
 ·simp only at e0 ha hla
  subst e0
  have hft:∀m∈a,CM m:=fun m hm=>by
   obtain⟨_,_,t,_,s,_,_,_,h⟩:=(ha.2 m).1 hm
   show(2+m.lbs.length) *8<=_
   rw[h,WT]
   show(2+ (aN q.pat []).length) *8<=_
   omega
  simp[htl, -Bool.forall_bool, -Bool.exists_bool]
  refine ai (X:=Value×List Match) [5,6,7] [5,6] c.toks.length (fun k x=>SX c (aN q.pat []) q.pat k x.2/\x.2.length<=4096*k) (fun x=>[(9, .own 49 x.1)]) (fun x=>[(49, .row x.1 sB 3 (x.2.map enc))]) (.slice none 0 0, []) (by simp) (by simp) (by omega) (by simp) (by simp) ⟨MU _ _ _,by simp⟩ (by simp) (by simp[isNilRow]) ?_ ?_
  ·rintro k ⟨v,l⟩ hk ⟨g1,g2⟩
   simp only at g1 g2
   have hF:=qfW ha (k:Int)
   have hFl:(a.filter fun m=>decide (m.b=(k:Int))).length<=4096:=qxF (List.length_filter_le _ _) hla
   have hP:qdG Mb (c,q,(k:Int)):=⟨hM,by show(0:Int)<=k;omega,by show(k:Int) < c.toks.length;omega⟩
   simp[h5,hP, -Bool.forall_bool, -Bool.exists_bool]
   intro y e hy
   have hy:=hy _ hF
   rw[if_pos hFl]at hy
   cases hy
   have hst:=MV g1 hF
   exact⟨rfl,fun _=>⟨by omega,by omega,fun v=>⟨v,_,⟨hst,by simp;omega⟩,rfl, .inl ⟨rfl,by simp⟩⟩⟩⟩
  ·rintro⟨v,l⟩ ⟨g1,g2⟩
   simp only at g1 g2
   have e:a=l:=Wf ha (Ru g1)
   subst e
   simp[h7,h6, -Bool.forall_bool, -Bool.exists_bool]
   exact hft
 ·simp only at e0 e1
  subst e0;subst e1
  simp[h6, -Bool.forall_bool, -Bool.exists_bool]
end Go.Gv

namespace Go.Gv
open Go.Proofs
end Go.Gv
