/- A part of the framework and of the walks: W195 W196 W197 V67 W198 W199. -/
import Derived.Test.YtphdikcommfnhaaGreatDoorGa43
import Derived.Test.YtphdikcommfnhaaGreatDoorGa42
import Derived.Test.YtphdikcommfnhaaGreatDoorGa36
set_option linter.unusedSimpArgs false
set_option linter.unusedVariables false
set_option maxRecDepth 100000

namespace Go.Gv
open Cod (enc dec)
variable {S S0:Nat->Spc}
theorem Wv {H:aa} {op o:Int} {n a v l lb rg:B} {f:Bool} {cd d:D} {mn mx:Int} (cks:List Cond) (ks:List Pat) (hc:FrzTo H cd (enc cks)) (hd:FrzTo H d (enc ks)):
 FrzTo H (.agg [.v (.int .i64 op), .v (.int .i64 o), .v (.string n), .v (.string a), .v (.string v), .v (.string l), .v (.bool f),cd, .v (.string lb), .v (.string rg), .v (.int .i64 mn), .v (.int .i64 mx),d]) (enc (⟨op,⟨o,n,a,v,l,f,cks⟩,lb,rg,mn,mx,ks⟩:Pat)):=by
 rw[WI]
 refine .agg rfl fun k x y hx hy=> ?_
 rcases k with _ | _ | _ | _ | _ | _ | _ | _ | _ | _ | _ | _ | _ | k
 ·cases hx;cases hy;exact .same _
 ·cases hx;cases hy;exact .same _
 ·cases hx;cases hy;exact .same _
 ·cases hx;cases hy;exact .same _
 ·cases hx;cases hy;exact .same _
 ·cases hx;cases hy;exact .same _
 ·cases hx;cases hy;exact .same _
 ·cases hx;cases hy;exact hc
 ·cases hx;cases hy;exact .same _
 ·cases hx;cases hy;exact .same _
 ·cases hx;cases hy;exact .same _
 ·cases hx;cases hy;exact .same _
 ·cases hx;cases hy;exact hd
 ·simp at hx
theorem TA {b:Nat} {post:Pst->Pat->Prop} {H:aa} {op o:Int} {n a v l lb rg:B} {f:Bool} {cd d:D} {mn mx:Int} (s:Pst) (cks:List Cond) (ks:List Pat) (hc:FrzTo (fun i=> if i=0 then none else H i) cd (enc cks)) (hd:FrzTo (fun i=> if i=0 then none else H i) d (enc ks))
 (h0:H 0=some (.box b (jZ s))) (hq:post s ⟨op,⟨o,n,a,v,l,f,cks⟩,lb,rg,mn,mx,ks⟩):
 F2 enc b post (.agg [.v (.int .i64 op), .v (.int .i64 o), .v (.string n), .v (.string a), .v (.string v), .v (.string l), .v (.bool f),cd, .v (.string lb), .v (.string rg), .v (.int .i64 mn), .v (.int .i64 mx),d]) H:=
 zT s _ (Wv cks ks hc hd) h0 hq
theorem NR {s:Pst} {t:B} {r:Pst×Bool} (h:nR s t=some r): (r=(s,false)/\OI s 111 t=some false)\/(r=(s.step,true)/\OI s 111 t=some true):=by
 unfold nR at h
 obtain⟨v,hv,rfl⟩:=Option.map_eq_some_iff.1 h
 cases v
 ·exact .inl ⟨rfl,hv⟩
 ·exact .inr ⟨rfl,hv⟩
theorem s6 {s:Pst} {x:Cp} {t:B} (he:s.e=0) (hx:sJ s=some x) (h: ¬ (x.kind=111/\x.text=t)):nR s t=some (s,false):=by
 rw[nR,Dm he hx,decide_eq_false h];rfl
theorem WJ {s:Pst} {x:Cp} {t:B} (he:s.e=0) (hx:sJ s=some x) (h1:x.kind=111) (h2:x.text=t):nR s t=some (s.step,true):=by
 rw[nR,Dm he hx,decide_eq_true ⟨h1,h2⟩];rfl
@[simp] abbrev J1 (s:Pst) (_:Unit):Option (Pst×Pat):=SY s
abbrev M2:Spc:=Nn a0 (enc (X:=Pat)) J1
@[simp] abbrev Pr (s:Pst) (_:Unit):Option (Pst×Pat):=VH s
abbrev RY:Spc:=Nn a0 (enc (X:=Pat)) Pr
@[simp] abbrev Pq (s:Pst) (_:Unit):Option (Pst×Pat):=RR s
abbrev RW:Spc:=Nn a0 (enc (X:=Pat)) Pq
@[simp] abbrev Pt (s:Pst) (_:Unit):Option (Pst×Pat):=UC s
abbrev R3:Spc:=Nn a0 (enc (X:=Pat)) Pt
theorem Rm {s:Pst} {x:Cp} {k:Int} {t:B} (he:s.e=0) (hx:sJ s=some x) (h1:x.kind=k) (h2:k=111->x.text=t):yb s k t=some (s.step,x.text):=by
 rw[yb,if_neg (by simp[he]),hx,Option.bind_some,if_neg (by rintro(h | h);exact h h1;exact h.2 (h2 h.1))]
theorem DN {s s':Pst} {lb:B} {y:Pat} (h:Ip s lb=some (s',y)):s.e=0/\ ∃x,sJ s=some x/\((x.kind=115/\yb s 115 ⟨#[]⟩=some (s.step,x.text)/\ ∃w,nR s.step ⟨#[37,99]⟩=some (s',w)/\y=⟨1,⟨2,E0,E0,x.text,E0,w, []⟩,lb,E0,0,0, []⟩)\/
 (x.kind≠115/\ ∃u t,yb s 111 ⟨#[91]⟩=some (u,t)/\nR u ⟨#[93]⟩=some (s',true)/\y=⟨1,⟨1,E0,E0,E0,E0,false, []⟩,lb,E0,0,0, []⟩)):=by
 unfold Ip at h
 split at h
 ·cases h
 rename_i he
 have he:s.e=0:=by simpa using he
 obtain⟨x,hx,h⟩:=Option.bind_eq_some_iff.1 h
 refine⟨he,x,hx,?_⟩
 split at h
 ·rename_i hk
  obtain⟨⟨s2,w⟩,hf,h⟩:=Option.map_eq_some_iff.1 h
  cases h
  exact .inl ⟨hk,Rm he hx hk (fun h=> absurd h (by decide)),w,hf,rfl⟩
 ·rename_i hk
  obtain⟨⟨u,t⟩,hu,h⟩:=Option.bind_eq_some_iff.1 h
  obtain⟨⟨s2,w⟩,hf,h⟩:=Option.bind_eq_some_iff.1 h
  cases w with
  | false=> simp at h
  | true=>
    simp at h
    obtain⟨rfl,rfl⟩:=h
    exact .inr ⟨hk,u,t,hu,hf,rfl⟩
set_option maxHeartbeats 1000000 in
theorem X8 (h1:S av=rE) (h2:S au=uh) (h3:S aK=MP) (h4:S fA=M5):
 mz dE dy S a0 (enc (X:=Pat)) (fun s z=> ∃r,J1 s z=some r) (fun s z s' y=> J1 s z=some (s',y)):=by
 rintro b s ⟨⟩ ⟨⟨s',y⟩,hr⟩
 have hr0:=hr
 simp only[J1,SY] at hr
 split at hr
 ·cases hr
 rename_i he
 have he:s.e=0:=by simpa using he
 obtain⟨x,hx,hr⟩:=Option.bind_eq_some_iff.1 hr
 split at hr
 ·cases hr
 rename_i hx1
 have n1:nR s ⟨#[40]⟩=some (s,false):=s6 he hx fun h=> hx1 ⟨h.1,by rw[h.2];decide⟩
 have n2:nR s ⟨#[60]⟩=some (s,false):=s6 he hx fun h=> hx1 ⟨h.1,by rw[h.2];decide⟩
 have n3:nR s ⟨#[60,47]⟩=some (s,false):=s6 he hx fun h=> hx1 ⟨h.1,by rw[h.2];decide⟩
 split at hr
 ·rename_i hk
  obtain⟨⟨s1,t1⟩,hc,hr⟩:=Option.bind_eq_some_iff.1 hr
  simp only at hr
  have hw:=Rm (k:=110) (t:=⟨#[]⟩) he hx hk (fun h=> absurd h (by decide))
  obtain⟨he1,x1,hx1,(⟨k1,w1,w,hf,rfl⟩ | ⟨k1,u,t,hu,hf,rfl⟩)⟩:=DN hr
  ·simp[dE,dy,h1,h2,h3,h4,n1,n2,n3,he,zX he,hx,hk,hw,hc,he1,zX he1,hx1,k1,w1,hf, -Bool.forall_bool, -Bool.exists_bool]
   exact fun b1=> TA s' [] [] (.nil _) (.nil _) (by simp) hr0
  ·simp[dE,dy,h1,h2,h3,h4,n1,n2,n3,he,zX he,hx,hk,hw,hc,he1,zX he1,hx1,k1,hu,hf, -Bool.forall_bool, -Bool.exists_bool]
   exact fun b1=> TA s' [] [] (.nil _) (.nil _) (by simp) hr0
 ·rename_i hk
  obtain⟨_,x1,hx1,h⟩:=DN hr
  rw[hx] at hx1
  cases hx1
  obtain(⟨k1,w1,w,hf,rfl⟩ | ⟨k1,u,t,hu,hf,rfl⟩):=h
  ·simp[dE,dy,h1,h2,h3,h4,n1,n2,n3,he,zX he,hx,k1,w1,hf, -Bool.forall_bool, -Bool.exists_bool]
   exact fun b1=> TA s' [] [] (.nil _) (.nil _) (by simp) hr0
  ·simp[dE,dy,h1,h2,h3,h4,n1,n2,n3,he,zX he,hx,hk,k1,hu,hf, -Bool.forall_bool, -Bool.exists_bool]
   exact fun b1=> TA s' [] [] (.nil _) (.nil _) (by simp) hr0
set_option maxHeartbeats 1000000 in
theorem qaJ (h1:S av=rE) (h2:S au=uh) (h5:S fy=M2):
 mz l8 lu S a0 (enc (X:=Pat)) (fun s z=> ∃r,Pr s z=some r) (fun s z s' y=> Pr s z=some (s',y)):=by
 rintro b s ⟨⟩ ⟨⟨s',y⟩,hr⟩
 have hr0:=hr
 simp only[Pr,VH] at hr
 obtain⟨⟨s1,x1⟩,hi,hr⟩:=Option.bind_eq_some_iff.1 hr
 simp only at hr
 simp[l8,lu,h5,hi]
 intro b2 b3
 refine G6 (X:=Nat×Pst×Pat) [0,2,3] [2] [] [] [] [] (fun z=> um z.1 z.2.1 z.2.2=some (s',y)) (fun _=> []) (fun z=> [(0, .box b (jZ z.2.1)),(3, .box b3 (enc z.2.2).cells)]) (fun z=> z.1) (9,s1,x1) [0,3] (fun _=> rfl) (by decide) (by decide) hr (by simp) (by simp) ?_
 clear hr hi
 rintro⟨k,s,x⟩ hk
 simp only at hk
 obtain _ | k:=k
 ·rw[um] at hk;cases hk
 rw[um] at hk
 split at hk
 ·cases hk
 rename_i he
 have he:s.e=0:=by simpa using he
 obtain⟨t,ht,hk⟩:=Option.bind_eq_some_iff.1 hk
 split at hk
 ·cases hk
 rename_i hno
 have n1:nR s ⟨#[63]⟩=some (s,false):=s6 he ht fun h=> hno ⟨h.1, .inl h.2⟩
 have n3:nR s ⟨#[43]⟩=some (s,false):=s6 he ht fun h=> hno ⟨h.1, .inr (.inl h.2)⟩
 have n4:nR s ⟨#[123]⟩=some (s,false):=s6 he ht fun h=> hno ⟨h.1, .inr (.inr h.2)⟩
 split at hk
 ·rename_i hb
  have y2:=WJ he ht hb.1 hb.2
  simp[h1,h2,he,zX he,ht,n1,y2, -Bool.forall_bool, -Bool.exists_bool]
  exact⟨k,s.step,⟨6,qN,E0,E0,0, -1, [x]⟩,hk,⟨.inl (.inl ⟨rfl,rfl,rfl,rfl,rfl⟩), .inl (by simp[qN,E0])⟩,by omega⟩
 ·rename_i hb
  have n2:nR s ⟨#[42]⟩=some (s,false):=s6 he ht hb
  cases hk
  simp[h1,h2,he,zX he,ht,n1,n2,n3,n4, -Bool.forall_bool, -Bool.exists_bool]
  exact zT s' y (by simp) (by simp[he]) hr0
theorem VM {op:Int} {l:List Pat} (h:l.length≠1):Xv op l=⟨op,qN,E0,E0,0,0,l⟩:=by
 match l,h with
 | [],_=> rfl
 | [x],h=> exact absurd rfl h
 | x::y::l,_=> rfl
theorem qaH (h1:S eo=wK) (h2:S eI=RY):
 mz l7 lr S a0 (enc (X:=Pat)) (fun s z=> ∃r,Pq s z=some r) (fun s z s' y=> Pq s z=some (s',y)):=by
 rintro b s ⟨⟩ ⟨⟨s',y⟩,hr⟩
 have hr0:=hr
 simp only[Pq,RR] at hr
 obtain⟨⟨s1,x1⟩,hi,hr⟩:=Option.bind_eq_some_iff.1 hr
 obtain⟨⟨s2,l2⟩,hl,hr⟩:=Option.map_eq_some_iff.1 hr
 simp only at hl hr
 cases hr
 simp[l7,lr,h2,hi]
 intro b2 v0
 refine aY (X:=Nat×Pst×Value×List Pat) [0,2] [2] (fun z=> ue z.1 z.2.1 z.2.2.2=some (s',l2)/\z.2.2.2.length+z.1<=10) (fun z=> [(3, .own 6 z.2.2.1)]) (fun z=> [(0, .box b (jZ z.2.1)),(6, .row z.2.2.1 aq 13 (z.2.2.2.map enc))]) (fun z=> z.1) (9,s1,v0, [x1]) ⟨hl,by simp⟩ (by simp) (by simp) ?_
 clear hr hl hi
 rintro⟨k,s,v,l⟩ ⟨hk,hlen⟩
 simp only at hk hlen
 obtain _ | k:=k
 ·rw[ue] at hk;cases hk
 rw[ue] at hk
 obtain⟨v1,hb,hk⟩:=Option.bind_eq_some_iff.1 hk
 cases v1
 ·simp only[Bool.false_eq_true,if_false] at hk
  cases hk
  simp[h1,hb, -Bool.forall_bool, -Bool.exists_bool]
  clear h1 h2
  refine fun _=> ⟨fun h1=> ⟨by omega,fun a ha=> ?_⟩,fun hne=> ?_⟩
  ·have e:l2= [a]:=by
    match l2,h1,ha with
    | [x],_,ha=> simp at ha;rw[ha]
   rw[e] at hr0
   exact zT s' a (by simp) (by simp) hr0
  ·rw[VM (by omega)] at hr0
   exact TA s' [] l2 (.nil _) (xI aq (by simp)) (by simp) hr0
 ·simp only[if_true] at hk
  obtain⟨⟨s3,x3⟩,hx,hk⟩:=Option.bind_eq_some_iff.1 hk
  simp only at hk
  simp[h1,hb,h2,hx, -Bool.forall_bool, -Bool.exists_bool]
  exact⟨by omega,by omega,fun v'=> ⟨k,s3,v',l++ [x3],⟨hk,by simp;omega⟩,⟨rfl, .inl ⟨rfl,rfl,rfl,rfl,rfl⟩, .inl ⟨rfl,by simp⟩⟩,by omega⟩⟩
theorem qaN (h1:S au=uh) (h2:S eH=RW):
 mz mc lA S a0 (enc (X:=Pat)) (fun s z=> ∃r,Pt s z=some r) (fun s z s' y=> Pt s z=some (s',y)):=by
 rintro b s ⟨⟩ ⟨⟨s',y⟩,hr⟩
 have hr0:=hr
 simp only[Pt,UC] at hr
 obtain⟨⟨s1,x1⟩,hi,hr⟩:=Option.bind_eq_some_iff.1 hr
 simp only at hr
 obtain⟨⟨s2,w⟩,hw,hr⟩:=Option.bind_eq_some_iff.1 hr
 cases w with
 | true=> simp at hr
 | false=>
   simp at hr
   obtain⟨rfl,rfl⟩:=hr
   obtain⟨e,_⟩ | ⟨e,_⟩:=NR hw
   ·cases e
    simp[mc,lA,h2,hi]
    intro b2 v0
    refine aY (X:=Unit) [0,2,3] [0,2,6] (fun _=> True) (fun _=> []) (fun _=> []) (fun _=> 0) () trivial (by simp) (by simp) ?_
    rintro - -
    simp[h1,hw, -Bool.forall_bool, -Bool.exists_bool]
    exact zT s1 x1 (by simp) (by simp) hr0
   ·cases e
end Go.Gv

namespace Go.Gv
open Cod (enc dec)
variable {S S0:Nat->Spc}
def Ze (c:Int):Bool:=decide (48<=c/\c<=57)
abbrev AL:Spc:=cC (a1 U8) (fun _=> True) (enc (X:=Bool)) fun x y=> y=Ze x.val
theorem Mn:aV nU nL S (a1 U8) (fun _=> True) (enc (X:=Bool)) fun x y=> y=Af x.val:=by
 rintro⟨c⟩ -
 simp[nU,nL,Af]
 repeat' first | apply And.intro | intro _
 all_goals first | omega | (rw[Bool.eq_iff_iff];simp;omega)
theorem Py:aV pS pk S (a1 U8) (fun _=> True) (enc (X:=Bool)) fun x y=> y=Ze x.val:=by
 rintro⟨c⟩ -
 simp[pS,pk,Ze]
 repeat' first | apply And.intro | intro _
 all_goals first | omega | (rw[Bool.eq_iff_iff];simp;omega)
abbrev IA:Spc:=cC a0 (fun _=> True) (enc (X:=List B)) fun _ y=> y=signsL
theorem Vc:aV s8 sw S a0 (fun _=> True) (enc (X:=List B)) fun _ y=> y=signsL:=by
 rintro x -
 simp[s8,sw]
 exact eR signsL (.same _) rfl
theorem OH {s:B} {i:Nat} {c:UInt8} (h:s.data[i]?=some c):Wi s i=decide (c.toNat=32\/c.toNat=10):=by rw[Wi,h]
theorem WS {s:B} {i:Nat} (h:i < s.size): ∃c,s.data[i]?=some c:=⟨s.data[i],Array.getElem?_eq_getElem h⟩
theorem Ko (s:B): ∀ (n i:Nat),s.size -i=n->i<=s.size->i<=qw s i/\qw s i<=s.size
 | 0,i,h,hi=> by rw[Hh (by omega)];omega
 | n+1,i,h,hi=> by
   rw[wI (by omega)]
   split
   ·have:=Ko s n (i+1) (by omega) (by omega);omega
   ·omega
theorem Dn {s:B} {i:Nat} {c:UInt8} (h:s.data[i]?=some c):Ta s i=(Af c.toNat || Ze c.toNat || decide ((c.toNat:Int)=45)):=by
 unfold Ta ST Af Ze
 rw[h,Bool.eq_iff_iff]
 simp
 omega
theorem KY (c:UInt8):ST c.toNat=Af (c.toNat:Int):=by unfold ST Af;rw[Bool.eq_iff_iff];simp;omega
abbrev MT:Spc:=cC (a1 B) (fun s=> ∃r,B4 s=some r) (enc (X:=List Cp)) fun s y=> B4 s=some y
theorem XX (h1:S f9=ni) (h2:S fO=AL) (h3:S nw=IA):aV u4 uk S (a1 B) (fun s=> ∃r,B4 s=some r) (enc (X:=List Cp)) fun s y=> B4 s=some y:=by
 rintro s ⟨fin,hfin⟩
 have hsz:s.size<=100000:=by
  by_cases h:s.size<=100000
  ·exact h
  ·rw[B4,if_neg h] at hfin;cases hfin
 have hfin0:=hfin
 rw[B4,if_pos hsz] at hfin
 simp[u4,uk]
 refine aY (X:=Nat×Nat×Value×List Cp) [0] [] (fun z=> DV z.1 s z.2.1 z.2.2.2=some fin/\z.2.1<=s.size/\z.2.2.2.length<=z.2.1) (fun z=> [(3, .own 200 z.2.2.1),(4,enc (z.2.1:Int))]) (fun z=> [(200, .row z.2.2.1 aj 3 (z.2.2.2.map enc))]) (fun z=> z.1) (100000,0, .slice none 0 0, []) ⟨hfin,by simp,by simp⟩ (by simp) (by simp[isNilRow]) ?_
 clear hfin
 rintro⟨k,i,v,out⟩ ⟨hk,hi,hlen⟩
 simp only at hk hi hlen
 obtain _ | k:=k
 ·rw[DV] at hk;cases hk
 rw[DV] at hk
 simp
 refine qO (X:=Unit) [0,3] [200] (fun _=> True) (fun _=> [(4,enc ((qw s i:Nat):Int))]) (fun _=> []) ?_ ?_
 ·simp
  refine aY (X:=Nat) [0,3] [200] (fun j=> i<=j/\j<=s.size/\qw s j=qw s i) (fun j=> [(4,enc (j:Int))]) (fun _=> []) (fun j=> s.size -j) i ⟨Nat.le_refl _,hi,rfl⟩ (by simp) (by simp) ?_
  rintro j ⟨j0,j1,j2⟩
  simp
  refine fun _=> ⟨fun hj=> ⟨hj,fun c hc=> ⟨fun h32=> ⟨hj,fun c' hc'=> ?_⟩,fun h32=> ?_⟩⟩,fun hj=> ?_⟩
  ·rw[hc] at hc'
   cases hc'
   have hst:=wI hj
   rw[OH hc] at hst
   refine⟨fun h10=> ⟨by simp only[InR];omega,j+1,⟨by omega,by omega,?_⟩,by omega,by omega⟩,fun h10=> ?_⟩
   ·rw[<-j2,hst,if_pos (by simp;omega)]
   ·rw[<-j2,hst,if_neg (by simp;omega)]
  ·have hst:=wI hj
   rw[OH hc] at hst
   refine⟨by simp only[InR];omega,j+1,⟨by omega,by omega,?_⟩,by omega,by omega⟩
   rw[<-j2,hst,if_pos (by simp;omega)]
  ·rw[<-j2,Hh hj]
 rintro - -
 have hsk:=Ko s _ i rfl hi
 generalize hi':qw s i=i' at hk hsk
 simp
 refine fun _=> ⟨fun he=> ⟨by omega,by omega,fun v'=> ?_⟩,fun hne=> ?_⟩
 ·rw[if_pos (by omega)] at hk
  refine eR fin (xI aj ?_) hfin0
  cases hk
  rw[show(i':Int)=(s.size:Int) by omega]
  simp
 rw[if_neg (by omega)] at hk
 obtain⟨⟨j,t⟩,ht,hk⟩:=Option.bind_eq_some_iff.1 hk
 simp only at hk
 split at hk
 ·rename_i hj
  refine qO (X:=Value) [0] [] (fun _=> True) (fun v'=> [(5,enc (j:Int)),(3, .own 200 v')]) (fun v'=> [(200, .row v' aj 3 ((out++ [t]).map enc))]) ?_ ?_
  ·obtain⟨c,hc⟩:=WS (s:=s) (i:=i') (by omega)
   unfold qaT at ht
   rw[hc] at ht
   simp only at ht
   split at ht
   ·rename_i hL
    cases ht
    have hbeg:Af (c.toNat:Int)=true:=by rw[<-KY];exact hL
    simp[h1,h2,hc,hbeg]
    refine⟨by omega,?_⟩
    refine aY (X:=Nat) [0,3,4] [200] (fun j=> i'<=j/\j<=s.size/\A8 s j=A8 s i') (fun j=> [(5,enc (j:Int))]) (fun _=> []) (fun j=> s.size -j) i' ⟨Nat.le_refl _,by omega,rfl⟩ (by simp) (by simp) ?_
    rintro j ⟨j0,j1,j2⟩
    have go: ∀c:UInt8,s.data[j]?=some c->Ta s j=true->InR .i64 ((j:Int) +1)/\ ∃y,(i'<=y/\y<=s.size/\A8 s y=A8 s i')/\(j:Int) +1=y/\s.size -y < s.size -j:=fun c hc hn=> by
     have hj:j < s.size:=(Array.getElem?_eq_some_iff.1 hc).1
     refine⟨by simp only[InR];omega,j+1,⟨by omega,by omega,?_⟩,by omega,by omega⟩
     rw[<-j2,Hx hj,hn,if_pos rfl]
    have stop:A8 s j=j->A8 s i'=j:=fun h=> by rw[<-j2,h]
    simp[h1,h2]
    clear h1 h2 h3 hc hL hbeg
    refine fun _=> ⟨fun hj=> ⟨hj,fun c hc=> ⟨fun b1=> ⟨hj,fun c2 hc2=> ⟨fun b2=> ⟨hj,fun c3 hc3=> ⟨fun b3=> ?_,fun b3=> ?_⟩⟩,fun b2=> ?_⟩⟩,fun b1=> ?_⟩⟩,fun hj=> ?_⟩
    ·rw[hc] at hc3
     cases hc3
     exact go c hc (by rw[Dn hc,decide_eq_true b3];simp)
    ·rw[hc] at hc3 hc2
     cases hc3
     cases hc2
     have e:=stop (by rw[Hx hj,Dn hc,b1,b2,decide_eq_false b3];rfl)
     exact⟨j0,j1,by omega,by omega,fun v=> ⟨_,⟨by rw[e],rfl⟩, .inl ⟨rfl,by rw[e]⟩⟩⟩
    ·rw[hc] at hc2
     cases hc2
     exact go c hc (by rw[Dn hc,b2];simp)
    ·exact go c hc (by rw[Dn hc,b1];simp)
    ·have e:=stop (SC hj)
     exact⟨j0,j1,by omega,by omega,fun v=> ⟨_,⟨by rw[e],rfl⟩, .inl ⟨rfl,by rw[e]⟩⟩⟩
   rename_i hL
   have hbeg:Af (c.toNat:Int)=false:=by rw[<-KY];simpa using hL
   split at ht
   ·cases ht
   ·rename_i hD
    have hdg:Ze (c.toNat:Int)=false:=by unfold Ze;rw[decide_eq_false];omega
    split at ht
    ·rename_i hQ
     obtain⟨⟨q,w⟩,hq,ht⟩:=Option.map_eq_some_iff.1 ht
     cases ht
     have hQ': (c.toNat:Int)=34:=by omega
     rw[hQ'] at hbeg hdg
     simp[h1,h2,hc,hbeg,hdg,hQ']
     refine⟨by omega,by simp only[InR];omega,?_⟩
     refine aY (X:=Nat×B) [0,3,4] [200] (fun z=> Nl s z.1 z.2=some (q,w)/\z.1<=s.size/\i' < z.1/\z.2.size<=z.1) (fun z=> [(5,enc (z.1:Int)),(6,enc z.2),(7,enc false)]) (fun _=> []) (fun z=> s.size -z.1) (i'+1,⟨#[]⟩) ⟨hq,by omega,by omega,Nat.zero_le _⟩ (by simp) (by simp) ?_
     rintro⟨j,u⟩ ⟨j0,j1,j2,j3⟩
     simp only at j0 j1 j2 j3
     simp
     clear h1 h2 h3
     refine fun _=> ⟨fun hjs=> ⟨hjs,fun d hd=> ?_⟩,fun hjs=> ?_⟩
     ·rw[P1 hd] at j0
      refine⟨fun h34=> ⟨by simp only[InR];omega,fun _=> ⟨fun hj1=> ⟨by simp only[InR];omega,by omega,hj1,fun d' hd'=> ⟨fun h34'=> ?_,fun h34'=> ?_⟩⟩,fun hj1=> ?_⟩⟩,fun h34=> ?_⟩
      ·rw[if_pos (by omega),hd'] at j0
       simp only at j0
       rw[if_pos (by omega)] at j0
       cases j0
      ·rw[if_pos (by omega),hd'] at j0
       simp only at j0
       rw[if_neg (by omega)] at j0
       cases j0
       exact⟨by simp only[InR];omega,by omega,by omega,fun v'=> ⟨v',⟨rfl,rfl⟩, .inl ⟨rfl,rfl⟩⟩⟩
      ·have hnone:s.data[j+1]?=none:=Array.getElem?_eq_none (by show s.size<=j+1;omega)
       rw[if_pos (by omega),hnone] at j0
       cases j0
       exact⟨by simp only[InR];omega,by omega,by omega,fun v'=> ⟨v',⟨rfl,rfl⟩, .inl ⟨rfl,rfl⟩⟩⟩
      ·rw[if_neg (by omega)] at j0
       refine⟨by simp only[InR];omega,by omega,by omega,by omega,by simp only[InR];omega,j+1,_,⟨j0,by omega,by omega,?_⟩,⟨by omega,rfl⟩,by omega⟩
       rw[ByteArray.size_append,ByteArray.size_extract]
       omega
     ·rw[Sf hjs] at j0
      cases j0
    ·rename_i hQ
     have hQ': ¬ (c.toNat:Int)=34:=by omega
     split at ht
     ·cases ht
     ·rename_i x hx
      cases ht
      simp[h1,h2,h3,hc,hbeg,hdg,hQ']
      refine⟨by omega,fun _=> ?_⟩
      refine aA (X:=Unit) [0,3,4,5,38] [200] signsL.length (fun k _=> (signsL.drop k).find? (YB s i')=some x) (fun _=> []) (fun _=> []) () (by simp) (by simp) (by decide) (by simp) (by simp) (by simpa using hx) (by simp) (by simp) ?_ ?_
      ·rintro m -hm hP
       obtain⟨y,hy⟩:=FU hm
       obtain⟨_,hgy⟩:=List.getElem?_eq_some_iff.1 hy
       rw[lX hy,List.find?_cons] at hP
       have hpre:YB s i' y=decide (i'+y.size<=s.size/\s.extract i' (i'+y.size)=y):=rfl
       have e1: ((i':Int) + (y.size:Int)).toNat=i'+y.size:=by omega
       simp[hm,hy,hgy,e1]
       clear h1 h2 h3
       refine fun _=> ⟨by simp only[InR];omega,fun _=> ⟨fun hle _=> ⟨by simp only[InR];omega,by omega,by omega,fun hex _=> ⟨by simp only[InR];omega,fun hz=> ?_,fun _=> ?_⟩,fun hex=> ?_⟩,fun hlt=> ?_⟩⟩
       ·rw[hpre,decide_eq_true ⟨by omega,hex⟩] at hP
        cases hP
        omega
       ·rw[hpre,decide_eq_true ⟨by omega,hex⟩] at hP
        cases hP
        exact⟨by omega,by omega,by omega,by omega,fun v'=> ⟨v',⟨rfl,rfl⟩, .inl ⟨rfl,rfl⟩⟩⟩
       ·rw[hpre,decide_eq_false (fun h=> hex h.2)] at hP
        exact hP
       ·rw[hpre,decide_eq_false (fun h=> by have:=h.1;omega)] at hP
        exact hP
      ·rintro -hP
       rw[List.drop_length] at hP
       cases hP
  ·rintro v' -
   simp
   exact⟨k,j,v',out++ [t],⟨hk,hj.1,by simp;omega⟩,⟨⟨rfl,rfl⟩, .inl ⟨rfl,by simp⟩⟩,by omega⟩
 ·cases hk
end Go.Gv

namespace Go.Gv
open Cod (enc dec)
open Go.Proofs
variable {S S0:Nat->Spc}
def Po:Glob:=⟨0,E0,E0,E0,E0,E0,false,0,0, [], []⟩
@[simp] abbrev JZ (s:Pst) (z:List B×Int):Option (Pst×Int):=if s.e=0/\0<=z.2 then(sJ s).bind fun t=> if t.kind≠110 then some (s, -1) else none else none
abbrev MO:Spc:=Nn (a2 (List B) Int) (enc (X:=Int)) JZ
theorem XV (h1:S bV=M3):mz kK ku S (a2 (List B) Int) (enc (X:=Int)) (fun s z=> ∃r,JZ s z=some r) (fun s z s' y=> JZ s z=some (s',y)):=by
 rintro b s ⟨l,i⟩ ⟨r,hr⟩
 have hr0:=hr
 simp only[JZ] at hr
 split at hr
 ·rename_i he
  obtain⟨he,hi0⟩:=he
  have hi0:0<=i:=hi0
  obtain⟨t,ht,hr⟩:=Option.bind_eq_some_iff.1 hr
  split at hr
  ·rename_i hk
   cases hr
   simp[kK,ku]
   refine aY (X:=Int) [0,1] [0] (fun j=> 0<=j) (fun j=> [(7,enc j)]) (fun _=> []) (fun j=> (l.length -j).toNat) i hi0 (by simp) (by simp) ?_
   intro j hj
   have hj:0<=j:=hj
   have hno: ∀x:B,OI s 110 x=some false:=fun x=> by rw[Dm he ht,decide_eq_false];exact fun h=> hk h.1
   simp[h1,hno]
   exact fun _=> ⟨fun hl=> ⟨hj,hl,fun a _=> ⟨by simp only[InR];omega,j+1,by omega,rfl,by omega⟩⟩,fun _=> qiR s (by simp) ⟨⟨he,hi0⟩,by rw[ht];simp[hk]⟩⟩
  ·cases hr
 ·cases hr
abbrev Iw:Spc:=cC a0 (fun _=> True) (enc (X:=List B)) fun _ _=> True
theorem PB:aV pT pn S a0 (fun _=> True) (enc (X:=List B)) fun _ _=> True:=by
 rintro x -
 simp[pT,pn]
 exact eR (Y:=List B) [⟨#[]⟩,⟨#[119,105,116,104,105,110]⟩,⟨#[99,111,110,116,97,105,110,105,110,103]⟩,⟨#[111,118,101,114,108,97,112,112,105,110,103]⟩] (.same _) trivial
def Pl (s:B) (y:Qry×Int×Int):Prop:= ∃p,AR s=some p/\y=(⟨p,Po, [],0⟩,0,0)
abbrev IP:Spc:=cC (a1 B) (fun s=> ∃p,AR s=some p) (qaj (Y:=Qry) (Z:=Int) (W:=Int)) Pl
theorem Wz {H:aa} {l l':List D} (h:FzL H l l'):FrzTo H (.agg l) (.agg l'):= .agg h.get.1 h.get.2
theorem Vn (h1:S pJ=MT) (h2:S eJ=R3) (h3:S au=uh) (h4:S jS=Iw) (h5:S d6=MO) (h6:S bV=M3) (h7:S av=rE):
 aV s9 sx S (a1 B) (fun s=> ∃p,AR s=some p) (qaj (Y:=Qry) (Z:=Int) (W:=Int)) Pl:=by
 rintro s ⟨p,hp⟩
 have hp0:=hp
 unfold AR at hp
 split at hp
 ·rename_i hsz
  obtain⟨l,hl,hp⟩:=Option.bind_eq_some_iff.1 hp
  obtain⟨⟨s1,p1⟩,ha,hp⟩:=Option.bind_eq_some_iff.1 hp
  simp only at hp
  split at hp
  ·cases hp
  rename_i he
  have he:s1.e=0:=by simpa using he
  obtain⟨t,ht,hp⟩:=Option.bind_eq_some_iff.1 hp
  split at hp
  ·rename_i hk
   cases hp
   have hex: ∃y,B4 s=some y:=⟨l,hl⟩
   have n1:nR s1 ⟨#[58,58]⟩=some (s1,false):=s6 he ht (by omega)
   have n2:nR s1 ⟨#[33]⟩=some (s1,false):=s6 he ht (by omega)
   have n3:OI s1 110 ⟨#[115,116,114,97,116,101,103,121]⟩=some false:=by rw[Dm he ht,decide_eq_false];omega
   have hsz': ¬ (400:Int) < s.size:=by omega
   simp[s9,sx,h1,hsz',hex, -Bool.forall_bool]
   intro b2 _ l' hl' b16
   rw[hl] at hl'
   cases hl'
   simp[h2,ha,h3,n1]
   intro b6
   refine qO (X:=Unit) [2,5,6] [2,6,16] (fun _=> True) (fun _=> []) (fun _=> []) ?_ ?_
   ·simp
    refine aY (X:=Unit) [2,5,6] [2,6,16] (fun _=> True) (fun _=> []) (fun _=> []) (fun _=> 0) () trivial (by simp) (by simp) ?_
    rintro - -
    simp[h3,h4,h5,he,zX he,n2,ht,hk]
   rintro - -
   refine qO (X:=Unit) [2,5,6] [2,6,16] (fun _=> True) (fun _=> []) (fun _=> []) ?_ ?_
   ·simp[h6,n3]
   rintro - -
   refine qO (X:=Unit) [2,5,6] [2,6,16] (fun _=> True) (fun _=> []) (fun _=> []) ?_ ?_
   ·simp[h7,he,zX he,ht,hk]
   rintro - -
   simp[he]
   refine⟨⟨p,Po, [],0⟩,Wz ?_,p,hp0,rfl⟩
   simp[Po,E0]
  ·cases hp
 ·cases hp
end Go.Gv

namespace Go.Gv
open Go.Proofs
def YV:List B:= [⟨#[97]⟩,⟨#[98]⟩]
def knX:F0:=⟨⟨#[116]⟩,0,4, []⟩
def knR:Rn:=PY plC YV knX
def Z9:Pat:=⟨1,⟨2,E0,E0,⟨#[97]⟩,E0,false, []⟩,⟨#[97]⟩,E0,0,0, []⟩
def Z8:Pat:=⟨1,⟨2,E0,E0,⟨#[98]⟩,E0,false, []⟩,⟨#[98]⟩,E0,0,0, []⟩
def YU:Pat:=⟨1,⟨1,E0,E0,E0,E0,false, []⟩,E0,E0,0,0, []⟩
def YT:Pat:=⟨6,qN,E0,E0,0, -1, [YU]⟩
theorem zq:di zr []=YV:=by kernel_rfl
theorem QC:dH zr= [Z9,YU,Z8]:=by kernel_rfl
theorem OF: (decide (o8 zr<=256) && decide (rJ zr<=1000))=true:=by kernel_rfl
theorem qbB: ([Z9,YU,Z8].all fun x=> qdI plC.attrs YV x.cond)=true:=by kernel_rfl
theorem Wd (vs:List Int) (q:Pat) (hq:q=Z9\/q=Z8\/q=YU): ((List.range 4).all fun i=> (J3 ⟨plC,(i:Int),YV,vs⟩ 21 q.cond).isSome)=true:=by
 rcases hq with rfl | rfl | rfl <;> kernel_rfl
theorem YS: ((List.range 4).map fun(i:Nat)=> LD knR zr (Ir (i:Int)))= [[⟨2,1,2,0⟩,⟨4,1,4,0⟩], [], [⟨4,3,4,0⟩], []]:=by kernel_rfl
theorem SW {b:B} (h:b=⟨#[97]⟩\/b=⟨#[98]⟩):eb b=true:=by
 rw[wE]
 rcases h with rfl | rfl
 all_goals
  refine⟨by decide,by decide,fun c hc=> by cases hc;rfl,fun k c hc=> ?_⟩
  rcases k with _ | k
  ·cases hc;rfl
  ·simp at hc
theorem ET {C:Pat->Prop} (h0:C zr) (h1:C YT) (h2:C Z9) (h3:C Z8) (h4:C YU):mD C zr:=by
 intro q hq
 have:q∈ [zr,Z9,YT,YU,Z8]:=hq
 simp only[List.mem_cons,List.not_mem_nil,or_false] at this
 rcases this with rfl | rfl | rfl | rfl | rfl
 ·exact h0
 ·exact h2
 ·exact h1
 ·exact h4
 ·exact h3
theorem Dl:mD (fun q=> xX q/\zl q=true/\wm eb q=true) zr:=by
 have v0: ∀q:Pat,q.op≠2->q.op≠3->(q.lab≠ ⟨#[]⟩->eb q.lab=true)->wm eb q=true:=fun q h2 h3 h=> by
  unfold wm
  rw[decide_eq_true_eq]
  exact⟨fun h'=> by omega,h⟩
 refine ET ⟨.inr (.inr (.inl ⟨.inl rfl,rfl,rfl,rfl,rfl,rfl,by decide⟩)),rfl,v0 _ (by decide) (by decide) fun h=> absurd rfl h⟩
  ⟨.inr (.inr (.inr ⟨rfl,rfl,rfl,rfl,rfl⟩)),rfl,v0 _ (by decide) (by decide) fun h=> absurd rfl h⟩
  ⟨.inl ⟨rfl,rfl,rfl,rfl,rfl⟩,rfl,v0 _ (by decide) (by decide) fun _=> SW (.inl rfl)⟩ ⟨.inl ⟨rfl,rfl,rfl,rfl,rfl⟩,rfl,v0 _ (by decide) (by decide) fun _=> SW (.inr rfl)⟩
  ⟨.inl ⟨rfl,rfl,rfl,rfl,rfl⟩,rfl,v0 _ (by decide) (by decide) fun h=> absurd rfl h⟩
theorem wO {f:Pat->Bool} (p:Pat) (h:mD (fun q=> f q=true) p):jB f p=true:=by
 induction p using vo with | _ p ih=> ?_
 rw[ji,kW h,Bool.true_and,List.all_eq_true]
 exact fun k hk=> ih k hk (pC h hk)
theorem SX:rH eb zr=true:=by
 unfold rH
 rw[wO zr (rI Dl fun q h=> (Hw q).2 h.1),wO zr (rI Dl fun q h=> h.2.2),wO zr (rI Dl fun q h=> h.2.1)]
 rfl
theorem YQ:qax plC.attrs ⟨zr,nD, [],0⟩:=by
 have hn:=OF
 simp only[Bool.and_eq_true,decide_eq_true_eq] at hn
 refine⟨rfl,rfl,rfl,SX,hn.1,by rw[zq];decide,by show rJ zr<=1000000;omega,by decide,fun x hx=> ?_⟩
 have hx:x∈dH zr:=hx
 rw[QC] at hx
 have h:=List.all_eq_true.1 qbB x hx
 rw[show di (Qry.mk zr nD [] 0).pat []=YV from zq]
 refine⟨h,1,?_⟩
 simp only[List.mem_cons,List.not_mem_nil,or_false] at hx
 rcases hx with rfl | rfl | rfl <;> exact⟨by decide,fun k hk=> by cases hk⟩
theorem Nz {q:Pat} (hq:q=Z9\/q=Z8\/q=YU) (s:St3) (h:Mc knR.en s) (h2:s.p < knR.en): ∃y,vE knR q s=some y:=by
 have h2:s.p < 4:=h2
 have h0:=h.1
 obtain⟨i,hi,e⟩: ∃i:Nat,i < 4/\(i:Int)=s.p:=⟨s.p.toNat,by omega,by omega⟩
 have:=List.all_eq_true.1 (Wd (Mh knR s) q hq) i (List.mem_range.2 hi)
 unfold vE
 rw[<-e]
 exact Option.isSome_iff_exists.1 this
theorem YR:Pp plC zr:=by
 have hn:=OF
 simp only[Bool.and_eq_true,decide_eq_true_eq] at hn
 refine⟨⟨by decide,by decide,by decide⟩,by decide,SX,by rw[zq];decide,by omega,fun t ht=> ?_⟩
 have e:t=knX:=by simpa [plC,knX] using ht
 subst e
 rw[zq]
 have hop: ∀q:Pat,q.op≠1->xX q->zl q=true->(q.lab≠oj->pH YV q.lab=true)->Xg knR q:=fun q h1 h2 h3 h4=> ⟨h2,h3,h4,fun h=> absurd h h1⟩
 have g:=Dl
 refine ET (hop _ (by decide) (g zr (by simp[Cb])).1 rfl fun h=> absurd rfl h) (hop _ (by decide) (g YT (.tail _ (.tail _ (.head _)))).1 rfl fun h=> absurd rfl h) ⟨.inl ⟨rfl,rfl,rfl,rfl,rfl⟩,rfl,fun _=> rfl,fun _=> Nz (.inl rfl)⟩ ⟨.inl ⟨rfl,rfl,rfl,rfl,rfl⟩,rfl,fun _=> rfl,fun _=> Nz (.inr (.inl rfl))⟩ ⟨.inl ⟨rfl,rfl,rfl,rfl,rfl⟩,rfl,fun h=> absurd rfl h,fun _=> Nz (.inr (.inr rfl))⟩
theorem qbC:UY plC ⟨zr,nD, [],0⟩:=⟨YQ,YR⟩
def qbE:List Match:= [⟨0,2, [0,1]⟩,⟨0,4, [0,3]⟩,⟨2,4, [2,3]⟩]
theorem Ji {i:Int} (h0:0<=i) (h1:i < 4):PM plC i=some knX:=by
 unfold PM
 show List.find? _ [knX]=_
 rw[List.find?_cons,show(decide (knX.b<=i) && decide (i < knX.e))=true by rw[Bool.and_eq_true,decide_eq_true_iff,decide_eq_true_iff];exact⟨h0,h1⟩]
theorem qbD:Md plC YV zr qbE:=by
 refine⟨.cons (fun x hx=> ?_) (.cons (fun x hx=> ?_) (.cons (fun x hx=> by cases hx) .nil)),fun m=> ?_⟩
 ·simp only[List.mem_cons,List.not_mem_nil,or_false] at hx
  rcases hx with rfl | rfl <;> (unfold KR;decide)
 ·simp only[List.mem_cons,List.not_mem_nil,or_false] at hx
  subst hx
  (unfold KR;decide)
 have hd: ∀i:Nat,i < 4-> ∀s,ld knR zr (Ir (i:Int)) s↔s∈LD knR zr (Ir (i:Int)):=fun i hi s=> by
  refine(vn knR (by decide) zr ?_ (Ir (i:Int)) ⟨by simp[Ir],?_,fun j=> ?_⟩ s).symm
  ·exact ET (.inr (.inr (.inr (.inl rfl)))) (.inr (.inr (.inr (.inr (.inr (by decide)))))) (.inl rfl) (.inl rfl) (.inl rfl)
  ·show(i:Int)<=4;omega
  ·rcases j with _ | _ | j <;> exact⟨Int.le_refl 0,(by decide: (0:Int)<=4)⟩
 have hk:=YS
 simp only[List.range,List.range.loop,List.map_cons,List.map_nil,List.cons.injEq,and_true] at hk
 obtain⟨e0,e1,e2,e3⟩:=hk
 constructor
 ·intro hm
  simp only[qbE,List.mem_cons,List.not_mem_nil,or_false] at hm
  rcases hm with rfl | rfl | rfl
  ·exact⟨by decide,by decide,knX,Ji (by decide) (by decide),⟨2,1,2,0⟩,(hd 0 (by decide) _).2 (by rw[e0];simp),by decide,rfl,rfl⟩
  ·exact⟨by decide,by decide,knX,Ji (by decide) (by decide),⟨4,1,4,0⟩,(hd 0 (by decide) _).2 (by rw[e0];simp),by decide,rfl,rfl⟩
  ·exact⟨by decide,by decide,knX,Ji (by decide) (by decide),⟨4,3,4,0⟩,(hd 2 (by decide) _).2 (by rw[e2];simp),by decide,rfl,rfl⟩
 ·rintro⟨h0,h1,t,ht,s,hs,h3,h4,h5⟩
  obtain⟨b,e,l⟩:=m
  simp only at h0 h1 ht hs h3 h4 h5
  have h1:b < 4:=h1
  rw[Ji h0 h1] at ht
  cases ht
  obtain⟨i,hi,rfl⟩: ∃i:Nat,i < 4/\(i:Int)=b:=⟨b.toNat,by omega,by omega⟩
  have hs:=(hd i hi s).1 hs
  subst h4 h5
  rcases i with _ | _ | _ | _ | i
  ·rw[e0] at hs
   simp only[List.mem_cons,List.not_mem_nil,or_false] at hs
   rcases hs with rfl | rfl
   ·exact .head _
   ·exact .tail _ (.head _)
  ·rw[e1] at hs;cases hs
  ·rw[e2] at hs
   simp only[List.mem_cons,List.not_mem_nil,or_false] at hs
   subst hs
   exact .tail _ (.tail _ (.head _))
  ·rw[e3] at hs;cases hs
  ·omega
end Go.Gv

namespace Go.Gv
open Go.Proofs
open Cod (enc dec)
variable {S S0:Nat->Spc}
abbrev AK:Spc:=cC a0 (fun _=> True) enc (fun(_:Unit) (y:Bool)=> y=true)
theorem Px (h1:S ny=IP) (h2:S jV=IB) (h3:S gV=R1) (h4:S iO=yJ):aV qb pz S a0 (fun _=> True) enc (fun(_:Unit) (y:Bool)=> y=true):=by
 rintro x -
 have hex: ∃p,AR ⟨#[97,58,34,97,34,32,91,93,42,32,98,58,34,98,34]⟩=some p:=⟨_,HD⟩
 simp[qb,pz,h1,hex, -Bool.forall_bool, -Bool.exists_bool]
 rintro q a b ⟨p,hp,e⟩ b1
 cases e
 have e:p=zr:=Option.some.inj (hp.symm.trans HD)
 subst e
 have hM:UY plC ⟨zr,Po, [],0⟩:=qbC
 have hpl: (⟨#[97,98,97,98]⟩:B)=abT:=rfl
 simp[h2,h3,h4,hpl, -Bool.forall_bool, -Bool.exists_bool]
 have hi:Md plC (di zr []) zr qbE:=by rw[zq];exact qbD
 refine⟨hM,fun l e hq=> ?_⟩
 rcases hq with⟨h1,h2,h3⟩ | ⟨_,_,h3⟩
 ·have e1:l=qbE:=Wj h2 hi
  subst e1
  refine⟨fun _=> ⟨⟨fun m hm=> ?_,?_,?_,?_⟩,fun y hy=> hy.2 rfl⟩,h1⟩
  ·simp only[qbE,List.mem_cons,List.not_mem_nil,or_false] at hm
   rcases hm with rfl | rfl | rfl <;> (unfold oz;decide)
  ·unfold oz;decide
  ·unfold oz;decide
  ·unfold oz;decide
 ·exact absurd (h3 _ hi) (by decide)
end Go.Gv

namespace Go.Gv
open Go.Proofs
open Cod (enc dec)
variable {S S0:Nat->Spc}
abbrev Yt:Spc:=cC (a2 Match Match) (fun x=> oz x.1/\oz x.2) enc (fun(_:Match×Match) (y:Bool)=> y=true)
theorem X7 (h1:S cr=s_cmpM) (h2:S eE=D0) (h3:S iO=yJ) (h4:S jW=AK):aV jG ju S (a2 Match Match) (fun x=> oz x.1/\oz x.2) enc (fun(_:Match×Match) (y:Bool)=> y=true):=by
 rintro⟨a,b⟩ ⟨ha,hb⟩
 have ha:oz a:=ha
 have hb:oz b:=hb
 have hn:qr b a= -qr a b:=FM _ _
 simp[jG,ju,h1,h2,h3,h4,ha,hb,hn, -Bool.forall_bool, -Bool.exists_bool]
 refine⟨?_,fun y hy=> ?_⟩
 ·have:=FN (a.b::a.e::a.lbs) (b.b::b.e::b.lbs)
  have e:qr a b=e9 (a.b::a.e::a.lbs) (b.b::b.e::b.lbs):=rfl
  rw[<-e] at this
  simp only[InR]
  omega
 ·rw[Bool.eq_iff_iff,decide_eq_true_iff,hy]
  exact vw
end Go.Gv
