/- A part of the framework and of the walks: W195 W196 W197 V67 W198 W199. -/
import Derived.Test.YtphdikcommfnhaaGreatDoorGe45
import Derived.Test.YtphdikcommfnhaaGreatDoorGe39
set_option linter.unusedSimpArgs false
set_option linter.unusedVariables false
set_option linter.unusedSectionVars false
set_option maxRecDepth 100000

namespace Go.Gv
open Cod (enc dec)
variable {S S0:Nat->Spc}
theorem qgw{H:ab}{op o:Int}{n a v l lb rg:B}{f:Bool}{cd d:D}{mn mx:Int}(cks:List Cond)(ks:List Pat)(hc:FrzTo H cd (enc cks))(hd:FrzTo H d (enc ks)):
 FrzTo H (.agg [.v (.int .i64 op), .v (.int .i64 o), .v (.string n), .v (.string a), .v (.string v), .v (.string l), .v (.bool f),cd, .v (.string lb), .v (.string rg), .v (.int .i64 mn), .v (.int .i64 mx),d]) (enc (⟨op,⟨o,n,a,v,l,f,cks⟩,lb,rg,mn,mx,ks⟩:Pat)):=by
 rw[Po]
 refine .agg rfl fun k x y hx hy=>?_
 rcases k with _|_|_|_|_|_|_|_|_|_|_|_|_|k
 ·cases hx;cases hy;exact .same _
 ·cases hx;cases hy;exact .same _
 ·cases hx;cases hy;exact .same _
 ·cases hx;cases hy;exact .same _
 ·cases hx;cases hy;exact .same _
 ·cases hx;cases hy;exact .same _
 ·cases hx;cases hy;exact .same _
 ·cases hx;cases hy;exact hc
 ·cases hx;cases hy;exact .same _
 ·cases hx;cases hy;exact .same _
 ·cases hx;cases hy;exact .same _
 ·cases hx;cases hy;exact .same _
 ·cases hx;cases hy;exact hd
 ·simp at hx
theorem qcY{b:Nat}{post:Pst->Pat->Prop}{H:ab}{op o:Int}{n a v l lb rg:B}{f:Bool}{cd d:D}{mn mx:Int}(s:Pst)(cks:List Cond)(ks:List Pat)(hc:FrzTo (fun i=>if i=0 then none else H i) cd (enc cks))(hd:FrzTo (fun i=>if i=0 then none else H i) d (enc ks))
 (h0:H 0=some (.box b (lA s))) (hq:post s ⟨op,⟨o,n,a,v,l,f,cks⟩,lb,rg,mn,mx,ks⟩):
 Ll enc b post (.agg [.v (.int .i64 op), .v (.int .i64 o), .v (.string n), .v (.string a), .v (.string v), .v (.string l), .v (.bool f),cd, .v (.string lb), .v (.string rg), .v (.int .i64 mn), .v (.int .i64 mx),d]) H:=
 EO s _ (qgw cks ks hc hd) h0 hq
theorem U0{s:Pst}{t:B}{r:Pst×Bool}(h:rL s t=some r):(r=(s,false)/\WK s 111 t=some false)\/(r=(s.step,true)/\WK s 111 t=some true):=by
 unfold rL at h
 obtain⟨v,hv,rfl⟩:=qxK.1 h
 cases v
 ·exact .inl ⟨rfl,hv⟩
 ·exact .inr ⟨rfl,hv⟩
theorem yl{s:Pst}{x:Hn}{t:B}(he:s.e=0)(hx:xO s=some x)(h:¬ (x.kind=111/\x.text=t)):rL s t=some (s,false):=by
 rw[rL,Ir he hx,decide_eq_false h];rfl
theorem qgL{s:Pst}{x:Hn}{t:B}(he:s.e=0)(hx:xO s=some x)(h1:x.kind=111)(h2:x.text=t):rL s t=some (s.step,true):=by
 rw[rL,Ir he hx,decide_eq_true ⟨h1,h2⟩];rfl
@[simp] abbrev PY(s:Pst)(_:Unit):Option (Pst×Pat):=qcs s
abbrev qa7:Spc:=Uw a0 (enc (X:=Pat)) PY
@[simp] abbrev XN(s:Pst)(_:Unit):Option (Pst×Pat):=qfy s
abbrev qhE:Spc:=Uw a0 (enc (X:=Pat)) XN
@[simp] abbrev XM(s:Pst)(_:Unit):Option (Pst×Pat):=qaI s
abbrev qhC:Spc:=Uw a0 (enc (X:=Pat)) XM
@[simp] abbrev XP(s:Pst)(_:Unit):Option (Pst×Pat):=qd0 s
abbrev qhH:Spc:=Uw a0 (enc (X:=Pat)) XP
theorem Z9{s:Pst}{x:Hn}{k:Int}{t:B}(he:s.e=0)(hx:xO s=some x)(h1:x.kind=k)(h2:k=111->x.text=t):Do s k t=some (s.step,x.text):=by
 rw[Do,if_neg (by simp[he]),hx,qxR,if_neg (by rintro(h|h);exact h h1;exact h.2 (h2 h.1))]
theorem IX{s s':Pst}{lb:B}{y:Pat}(h:Oa s lb=some (s',y)):s.e=0/\∃x,xO s=some x/\((x.kind=115/\Do s 115 ⟨#[]⟩=some (s.step,x.text)/\∃w,rL s.step ⟨#[37,99]⟩=some (s',w)/\y=⟨1,⟨2,E0,E0,x.text,E0,w, []⟩,lb,E0,0,0, []⟩)\/
 (x.kind≠115/\∃u t,Do s 111 ⟨#[91]⟩=some (u,t)/\rL u ⟨#[93]⟩=some (s',true)/\y=⟨1,⟨1,E0,E0,E0,E0,false, []⟩,lb,E0,0,0, []⟩)):=by
 unfold Oa at h
 split at h
 ·cases h
 rename_i he
 have he:s.e=0:=by simpa using he
 obtain⟨x,hx,h⟩:=qxx.1 h
 refine⟨he,x,hx,?_⟩
 split at h
 ·rename_i hk
  obtain⟨⟨s2,w⟩,hf,h⟩:=qxK.1 h
  cases h
  exact .inl ⟨hk,Z9 he hx hk (fun h=>absurd h (by decide)),w,hf,rfl⟩
 ·rename_i hk
  obtain⟨⟨u,t⟩,hu,h⟩:=qxx.1 h
  obtain⟨⟨s2,w⟩,hf,h⟩:=qxx.1 h
  cases w with
  | false=>simp at h
  | true=>
    simp at h
    obtain⟨rfl,rfl⟩:=h
    exact .inr ⟨hk,u,t,hu,hf,rfl⟩
set_option maxHeartbeats 1000000 in
theorem qiD(h1:S cN=Jm)(h2:S dD=MP)(h3:S nK=qaR)(h4:S nN=qba):
 oV dJ dB S a0 (enc (X:=Pat)) (fun s z=>∃r,PY s z=some r) (fun s z s' y=>PY s z=some (s',y)):=by
 rintro b s ⟨⟩ ⟨⟨s',y⟩,hr⟩
 have hr0:=hr
 simp only[PY,qcs]at hr
 split at hr
 ·cases hr
 rename_i he
 have he:s.e=0:=by simpa using he
 obtain⟨x,hx,hr⟩:=qxx.1 hr
 split at hr
 ·cases hr
 rename_i hx1
 have n1:rL s ⟨#[40]⟩=some (s,false):=yl he hx fun h=>hx1 ⟨h.1,by rw[h.2];decide⟩
 have n2:rL s ⟨#[60]⟩=some (s,false):=yl he hx fun h=>hx1 ⟨h.1,by rw[h.2];decide⟩
 have n3:rL s ⟨#[60,47]⟩=some (s,false):=yl he hx fun h=>hx1 ⟨h.1,by rw[h.2];decide⟩
 split at hr
 ·rename_i hk
  obtain⟨⟨s1,t1⟩,hc,hr⟩:=qxx.1 hr
  simp only at hr
  have hw:=Z9 (k:=110) (t:=⟨#[]⟩) he hx hk (fun h=>absurd h (by decide))
  obtain⟨he1,x1,hx1,(⟨k1,w1,w,hf,rfl⟩|⟨k1,u,t,hu,hf,rfl⟩)⟩:=IX hr
  ·simp[dJ,dB,h1,h2,h3,h4,n1,n2,n3,he,ER he,hx,hk,hw,hc,he1,ER he1,hx1,k1,w1,hf, -Bool.forall_bool, -Bool.exists_bool]
   exact fun b1=>qcY s' [] [] (.nil _) (.nil _) (by simp) hr0
  ·simp[dJ,dB,h1,h2,h3,h4,n1,n2,n3,he,ER he,hx,hk,hw,hc,he1,ER he1,hx1,k1,hu,hf, -Bool.forall_bool, -Bool.exists_bool]
   exact fun b1=>qcY s' [] [] (.nil _) (.nil _) (by simp) hr0
 ·rename_i hk
  obtain⟨_,x1,hx1,h⟩:=IX hr
  rw[hx]at hx1
  cases hx1
  obtain(⟨k1,w1,w,hf,rfl⟩|⟨k1,u,t,hu,hf,rfl⟩):=h
  ·simp[dJ,dB,h1,h2,h3,h4,n1,n2,n3,he,ER he,hx,k1,w1,hf, -Bool.forall_bool, -Bool.exists_bool]
   exact fun b1=>qcY s' [] [] (.nil _) (.nil _) (by simp) hr0
  ·simp[dJ,dB,h1,h2,h3,h4,n1,n2,n3,he,ER he,hx,hk,k1,hu,hf, -Bool.forall_bool, -Bool.exists_bool]
   exact fun b1=>qcY s' [] [] (.nil _) (.nil _) (by simp) hr0
set_option maxHeartbeats 1000000 in
theorem qmg(h1:S cN=Jm)(h2:S dD=MP)(h5:S nM=qa7):
 oV oj nc S a0 (enc (X:=Pat)) (fun s z=>∃r,XN s z=some r) (fun s z s' y=>XN s z=some (s',y)):=by
 rintro b s ⟨⟩ ⟨⟨s',y⟩,hr⟩
 have hr0:=hr
 simp only[XN,qfy]at hr
 obtain⟨⟨s1,x1⟩,hi,hr⟩:=qxx.1 hr
 simp only at hr
 simp[oj,nc,h5,hi]
 intro b2 b3
 refine mD (X:=Nat×Pst×Pat) [0,2,3] [2] [] [] [] [] (fun z=>zY z.1 z.2.1 z.2.2=some (s',y)) (fun _=>[]) (fun z=>[(0, .box b (lA z.2.1)),(3, .box b3 (enc z.2.2).cells)]) (fun z=>z.1) (9,s1,x1) [0,3] (fun _=>rfl) (by decide) (by decide) hr (by simp) (by simp) ?_
 clear hr hi
 rintro⟨k,s,x⟩ hk
 simp only at hk
 obtain _|k:=k
 ·rw[zY]at hk;cases hk
 rw[zY]at hk
 split at hk
 ·cases hk
 rename_i he
 have he:s.e=0:=by simpa using he
 obtain⟨t,ht,hk⟩:=qxx.1 hk
 split at hk
 ·cases hk
 rename_i hno
 have n1:rL s ⟨#[63]⟩=some (s,false):=yl he ht fun h=>hno ⟨h.1, .inl h.2⟩
 have n3:rL s ⟨#[43]⟩=some (s,false):=yl he ht fun h=>hno ⟨h.1, .inr (.inl h.2)⟩
 have n4:rL s ⟨#[123]⟩=some (s,false):=yl he ht fun h=>hno ⟨h.1, .inr (.inr h.2)⟩
 split at hk
 ·rename_i hb
  have y2:=qgL he ht hb.1 hb.2
  simp[h1,h2,he,ER he,ht,n1,y2, -Bool.forall_bool, -Bool.exists_bool]
  exact⟨k,s.step,⟨6,Cond0,E0,E0,0, -1, [x]⟩,hk,⟨.inl (.inl ⟨rfl,rfl,rfl,rfl,rfl⟩), .inl (by simp[Cond0,E0])⟩,by omega⟩
 ·rename_i hb
  have n2:rL s ⟨#[42]⟩=some (s,false):=yl he ht hb
  cases hk
  simp[h1,h2,he,ER he,ht,n1,n2,n3,n4, -Bool.forall_bool, -Bool.exists_bool]
  exact EO s' y (by simp) (by simp[he]) hr0
theorem qfM{op:Int}{l:List Pat}(h:l.length≠1):qhM op l=⟨op,Cond0,E0,E0,0,0,l⟩:=by
 match l,h with
 | [],_=>rfl
 | [x],h=>exact absurd rfl h
 | x::y::l,_=>rfl
theorem qme(h1:S kU=Jt)(h2:S pK=qhE):
 oV oh nb S a0 (enc (X:=Pat)) (fun s z=>∃r,XM s z=some r) (fun s z s' y=>XM s z=some (s',y)):=by
 rintro b s ⟨⟩ ⟨⟨s',y⟩,hr⟩
 have hr0:=hr
 simp only[XM,qaI]at hr
 obtain⟨⟨s1,x1⟩,hi,hr⟩:=qxx.1 hr
 obtain⟨⟨s2,l2⟩,hl,hr⟩:=qxK.1 hr
 simp only at hl hr
 cases hr
 simp[oh,nb,h2,hi]
 intro b2 v0
 refine av (X:=Nat×Pst×Value×List Pat) [0,2] [2] (fun z=>zO z.1 z.2.1 z.2.2.2=some (s',l2)/\z.2.2.2.length+z.1<=10) (fun z=>[(3, .own 6 z.2.2.1)]) (fun z=>[(0, .box b (lA z.2.1)),(6, .row z.2.2.1 eL 13 (z.2.2.2.map enc))]) (fun z=>z.1) (9,s1,v0, [x1]) ⟨hl,by simp⟩ (by simp) (by simp) ?_
 clear hr hl hi
 rintro⟨k,s,v,l⟩ ⟨hk,hlen⟩
 simp only at hk hlen
 obtain _|k:=k
 ·rw[zO]at hk;cases hk
 rw[zO]at hk
 obtain⟨v1,hb,hk⟩:=qxx.1 hk
 cases v1
 ·simp only[qyh,if_false]at hk
  cases hk
  simp[h1,hb, -Bool.forall_bool, -Bool.exists_bool]
  clear h1 h2
  refine fun _=>⟨fun h1=>⟨by omega,fun a ha=>?_⟩,fun hne=>?_⟩
  ·have e:l2=[a]:=by
    match l2,h1,ha with
    | [x],_,ha=>simp at ha;rw[ha]
   rw[e]at hr0
   exact EO s' a (by simp) (by simp) hr0
  ·rw[qfM (by omega)]at hr0
   exact qcY s' [] l2 (.nil _) (gl eL (by simp)) (by simp) hr0
 ·simp only[if_true]at hk
  obtain⟨⟨s3,x3⟩,hx,hk⟩:=qxx.1 hk
  simp only at hk
  simp[h1,hb,h2,hx, -Bool.forall_bool, -Bool.exists_bool]
  exact⟨by omega,by omega,fun v'=>⟨k,s3,v',l++ [x3],⟨hk,by simp;omega⟩,⟨rfl, .inl ⟨rfl,rfl,rfl,rfl,rfl⟩, .inl ⟨rfl,by simp⟩⟩,by omega⟩⟩
theorem qmk(h1:S dD=MP)(h2:S pJ=qhC):
 oV oo nh S a0 (enc (X:=Pat)) (fun s z=>∃r,XP s z=some r) (fun s z s' y=>XP s z=some (s',y)):=by
 rintro b s ⟨⟩ ⟨⟨s',y⟩,hr⟩
 have hr0:=hr
 simp only[XP,qd0]at hr
 obtain⟨⟨s1,x1⟩,hi,hr⟩:=qxx.1 hr
 simp only at hr
 obtain⟨⟨s2,w⟩,hw,hr⟩:=qxx.1 hr
 cases w with
 | true=>simp at hr
 | false=>
   simp at hr
   obtain⟨rfl,rfl⟩:=hr
   obtain⟨e,_⟩|⟨e,_⟩:=U0 hw
   ·cases e
    simp[oo,nh,h2,hi]
    intro b2 v0
    refine av (X:=Unit) [0,2,3] [0,2,6] (fun _=>True) (fun _=>[]) (fun _=>[]) (fun _=>0) () trivial (by simp) (by simp) ?_
    rintro - -
    simp[h1,hw, -Bool.forall_bool, -Bool.exists_bool]
    exact EO s1 x1 (by simp) (by simp) hr0
   ·cases e
end Go.Gv

namespace Go.Gv
open Cod (enc dec)
variable {S S0:Nat->Spc}
def qkp(c:Int):Bool:=decide (48<=c/\c<=57)
abbrev MN:Spc:=aI (a1 U8) (fun _=>True) (enc (X:=Bool)) fun x y=>y=qkp x.val
theorem TC:aq rO rj S (a1 U8) (fun _=>True) (enc (X:=Bool)) fun x y=>y=A6 x.val:=by
 rintro⟨c⟩ -
 simp[rO,rj,A6]
 repeat' first|apply And.intro|intro _
 all_goals first|omega|(rw[qyi];simp;omega)
theorem X2:aq tV ta S (a1 U8) (fun _=>True) (enc (X:=Bool)) fun x y=>y=qkp x.val:=by
 rintro⟨c⟩ -
 simp[tV,ta,qkp]
 repeat' first|apply And.intro|intro _
 all_goals first|omega|(rw[qyi];simp;omega)
abbrev VP:Spc:=aI a0 (fun _=>True) (enc (X:=List B)) fun _ y=>y=signsL
theorem qeM:aq yn xk S a0 (fun _=>True) (enc (X:=List B)) fun _ y=>y=signsL:=by
 rintro x -
 simp[yn,xk]
 exact cp signsL (.same _) rfl
theorem WJ{s:B}{i:Nat}{c:UInt8}(h:s.data[i]? =some c):qgg s i=decide (c.toNat=32\/c.toNat=10):=by rw[qgg,h]
theorem qg0{s:B}{i:Nat}(h:i < s.size):∃c,s.data[i]? =some c:=⟨s.data[i],qyC h⟩
theorem QL(s:B):∀ (n i:Nat),s.size -i=n->i<=s.size->i<=uI s i/\uI s i<=s.size
 | 0,i,h,hi=>by rw[MF (by omega)];omega
 | n+1,i,h,hi=>by
   rw[Cm (by omega)]
   split
   ·have:=QL s n (i+1) (by omega) (by omega);omega
   ·omega
theorem Is{s:B}{i:Nat}{c:UInt8}(h:s.data[i]? =some c):qcu s i=(A6 c.toNat||qkp c.toNat||decide ((c.toNat:Int)=45)):=by
 unfold qcu qcn A6 qkp
 rw[h,qyi]
 simp
 omega
theorem RK(c:UInt8):qcn c.toNat=A6 (c.toNat:Int):=by unfold qcn A6;rw[qyi];simp;omega
abbrev qaW:Spc:=aI (a1 B) (fun s=>∃r,GZ s=some r) (enc (X:=List Hn)) fun s y=>GZ s=some y
theorem qit(h1:S tD=zS)(h2:S vI=MN)(h3:S AB=VP):aq AU zT S (a1 B) (fun s=>∃r,GZ s=some r) (enc (X:=List Hn)) fun s y=>GZ s=some y:=by
 rintro s ⟨fin,hfin⟩
 have hsz:s.size<=100000:=by
  by_cases h:s.size<=100000
  ·exact h
  ·rw[GZ,if_neg h]at hfin;cases hfin
 have hfin0:=hfin
 rw[GZ,if_pos hsz]at hfin
 simp[AU,zT]
 refine av (X:=Nat×Nat×Value×List Hn) [0] [] (fun z=>Jj z.1 s z.2.1 z.2.2.2=some fin/\z.2.1<=s.size/\z.2.2.2.length<=z.2.1) (fun z=>[(3, .own 200 z.2.2.1),(4,enc (z.2.1:Int))]) (fun z=>[(200, .row z.2.2.1 iC 3 (z.2.2.2.map enc))]) (fun z=>z.1) (100000,0, .slice none 0 0, []) ⟨hfin,by simp,by simp⟩ (by simp) (by simp[isNilRow]) ?_
 clear hfin
 rintro⟨k,i,v,out⟩ ⟨hk,hi,hlen⟩
 simp only at hk hi hlen
 obtain _|k:=k
 ·rw[Jj]at hk;cases hk
 rw[Jj]at hk
 simp
 refine aR (X:=Unit) [0,3] [200] (fun _=>True) (fun _=>[(4,enc ((uI s i:Nat):Int))]) (fun _=>[]) ?_ ?_
 ·simp
  refine av (X:=Nat) [0,3] [200] (fun j=>i<=j/\j<=s.size/\uI s j=uI s i) (fun j=>[(4,enc (j:Int))]) (fun _=>[]) (fun j=>s.size -j) i ⟨qxI _,hi,rfl⟩ (by simp) (by simp) ?_
  rintro j ⟨j0,j1,j2⟩
  simp
  refine fun _=>⟨fun hj=>⟨hj,fun c hc=>⟨fun h32=>⟨hj,fun c' hc'=>?_⟩,fun h32=>?_⟩⟩,fun hj=>?_⟩
  ·rw[hc]at hc'
   cases hc'
   have hst:=Cm hj
   rw[WJ hc]at hst
   refine⟨fun h10=>⟨by simp only[InR];omega,j+1,⟨by omega,by omega,?_⟩,by omega,by omega⟩,fun h10=>?_⟩
   ·rw[<-j2,hst,if_pos (by simp;omega)]
   ·rw[<-j2,hst,if_neg (by simp;omega)]
  ·have hst:=Cm hj
   rw[WJ hc]at hst
   refine⟨by simp only[InR];omega,j+1,⟨by omega,by omega,?_⟩,by omega,by omega⟩
   rw[<-j2,hst,if_pos (by simp;omega)]
  ·rw[<-j2,MF hj]
 rintro - -
 have hsk:=QL s _ i rfl hi
 generalize hi':uI s i=i' at hk hsk
 simp
 refine fun _=>⟨fun he=>⟨by omega,by omega,fun v'=>?_⟩,fun hne=>?_⟩
 ·rw[if_pos (by omega)]at hk
  refine cp fin (gl iC ?_) hfin0
  cases hk
  rw[show(i':Int)=(s.size:Int) by omega]
  simp
 rw[if_neg (by omega)]at hk
 obtain⟨⟨j,t⟩,ht,hk⟩:=qxx.1 hk
 simp only at hk
 split at hk
 ·rename_i hj
  refine aR (X:=Value) [0] [] (fun _=>True) (fun v'=>[(5,enc (j:Int)),(3, .own 200 v')]) (fun v'=>[(200, .row v' iC 3 ((out++ [t]).map enc))]) ?_ ?_
  ·obtain⟨c,hc⟩:=qg0 (s:=s) (i:=i') (by omega)
   unfold qms at ht
   rw[hc]at ht
   simp only at ht
   split at ht
   ·rename_i hL
    cases ht
    have hbeg:A6 (c.toNat:Int)=true:=by rw[<-RK];exact hL
    simp[h1,h2,hc,hbeg]
    refine⟨by omega,?_⟩
    refine av (X:=Nat) [0,3,4] [200] (fun j=>i'<=j/\j<=s.size/\F5 s j=F5 s i') (fun j=>[(5,enc (j:Int))]) (fun _=>[]) (fun j=>s.size -j) i' ⟨qxI _,by omega,rfl⟩ (by simp) (by simp) ?_
    rintro j ⟨j0,j1,j2⟩
    have go:∀c:UInt8,s.data[j]? =some c->qcu s j=true->InR .i64 ((j:Int) +1)/\∃y,(i'<=y/\y<=s.size/\F5 s y=F5 s i')/\(j:Int) +1=y/\s.size -y < s.size -j:=fun c hc hn=>by
     have hj:j < s.size:=(qxG.1 hc).1
     refine⟨by simp only[InR];omega,j+1,⟨by omega,by omega,?_⟩,by omega,by omega⟩
     rw[<-j2,M5 hj,hn,if_pos rfl]
    have stop:F5 s j=j->F5 s i'=j:=fun h=>by rw[<-j2,h]
    simp[h1,h2]
    clear h1 h2 h3 hc hL hbeg
    refine fun _=>⟨fun hj=>⟨hj,fun c hc=>⟨fun b1=>⟨hj,fun c2 hc2=>⟨fun b2=>⟨hj,fun c3 hc3=>⟨fun b3=>?_,fun b3=>?_⟩⟩,fun b2=>?_⟩⟩,fun b1=>?_⟩⟩,fun hj=>?_⟩
    ·rw[hc]at hc3
     cases hc3
     exact go c hc (by rw[Is hc,decide_eq_true b3];simp)
    ·rw[hc]at hc3 hc2
     cases hc3
     cases hc2
     have e:=stop (by rw[M5 hj,Is hc,b1,b2,decide_eq_false b3];rfl)
     exact⟨j0,j1,by omega,by omega,fun v=>⟨_,⟨by rw[e],rfl⟩, .inl ⟨rfl,by rw[e]⟩⟩⟩
    ·rw[hc]at hc2
     cases hc2
     exact go c hc (by rw[Is hc,b2];simp)
    ·exact go c hc (by rw[Is hc,b1];simp)
    ·have e:=stop (qb3 hj)
     exact⟨j0,j1,by omega,by omega,fun v=>⟨_,⟨by rw[e],rfl⟩, .inl ⟨rfl,by rw[e]⟩⟩⟩
   rename_i hL
   have hbeg:A6 (c.toNat:Int)=false:=by rw[<-RK];simpa using hL
   split at ht
   ·cases ht
   ·rename_i hD
    have hdg:qkp (c.toNat:Int)=false:=by unfold qkp;rw[decide_eq_false];omega
    split at ht
    ·rename_i hQ
     obtain⟨⟨q,w⟩,hq,ht⟩:=qxK.1 ht
     cases ht
     have hQ':(c.toNat:Int)=34:=by omega
     rw[hQ']at hbeg hdg
     simp[h1,h2,hc,hbeg,hdg,hQ']
     refine⟨by omega,by simp only[InR];omega,?_⟩
     refine av (X:=Nat×B) [0,3,4] [200] (fun z=>Ut s z.1 z.2=some (q,w)/\z.1<=s.size/\i' < z.1/\z.2.size<=z.1) (fun z=>[(5,enc (z.1:Int)),(6,enc z.2),(7,enc false)]) (fun _=>[]) (fun z=>s.size -z.1) (i'+1,⟨#[]⟩) ⟨hq,by omega,by omega,qx3 _⟩ (by simp) (by simp) ?_
     rintro⟨j,u⟩ ⟨j0,j1,j2,j3⟩
     simp only at j0 j1 j2 j3
     simp
     clear h1 h2 h3
     refine fun _=>⟨fun hjs=>⟨hjs,fun d hd=>?_⟩,fun hjs=>?_⟩
     ·rw[Yu hd]at j0
      refine⟨fun h34=>⟨by simp only[InR];omega,fun _=>⟨fun hj1=>⟨by simp only[InR];omega,by omega,hj1,fun d' hd'=>⟨fun h34'=>?_,fun h34'=>?_⟩⟩,fun hj1=>?_⟩⟩,fun h34=>?_⟩
      ·rw[if_pos (by omega),hd']at j0
       simp only at j0
       rw[if_pos (by omega)]at j0
       cases j0
      ·rw[if_pos (by omega),hd']at j0
       simp only at j0
       rw[if_neg (by omega)]at j0
       cases j0
       exact⟨by simp only[InR];omega,by omega,by omega,fun v'=>⟨v',⟨rfl,rfl⟩, .inl ⟨rfl,rfl⟩⟩⟩
      ·have hnone:s.data[j+1]? =none:=qyZ (by show s.size<=j+1;omega)
       rw[if_pos (by omega),hnone]at j0
       cases j0
       exact⟨by simp only[InR];omega,by omega,by omega,fun v'=>⟨v',⟨rfl,rfl⟩, .inl ⟨rfl,rfl⟩⟩⟩
      ·rw[if_neg (by omega)]at j0
       refine⟨by simp only[InR];omega,by omega,by omega,by omega,by simp only[InR];omega,j+1,_,⟨j0,by omega,by omega,?_⟩,⟨by omega,rfl⟩,by omega⟩
       rw[ByteArray.size_append,qzU]
       omega
     ·rw[qbA hjs]at j0
      cases j0
    ·rename_i hQ
     have hQ':¬ (c.toNat:Int)=34:=by omega
     split at ht
     ·cases ht
     ·rename_i x hx
      cases ht
      simp[h1,h2,h3,hc,hbeg,hdg,hQ']
      refine⟨by omega,fun _=>?_⟩
      refine ai (X:=Unit) [0,3,4,5,38] [200] signsL.length (fun k _=>(signsL.drop k).find? (qjp s i')=some x) (fun _=>[]) (fun _=>[]) () (by simp) (by simp) (by decide) (by simp) (by simp) (by simpa using hx) (by simp) (by simp) ?_ ?_
      ·rintro m -hm hP
       obtain⟨y,hy⟩:=bJ hm
       obtain⟨_,hgy⟩:=qxz.1 hy
       rw[gP hy,List.find?_cons]at hP
       have hpre:qjp s i' y=decide (i'+y.size<=s.size/\s.extract i' (i'+y.size)=y):=rfl
       have e1:((i':Int) + (y.size:Int)).toNat=i'+y.size:=by omega
       simp[hm,hy,hgy,e1]
       clear h1 h2 h3
       refine fun _=>⟨by simp only[InR];omega,fun _=>⟨fun hle _=>⟨by simp only[InR];omega,by omega,by omega,fun hex _=>⟨by simp only[InR];omega,fun hz=>?_,fun _=>?_⟩,fun hex=>?_⟩,fun hlt=>?_⟩⟩
       ·rw[hpre,decide_eq_true ⟨by omega,hex⟩]at hP
        cases hP
        omega
       ·rw[hpre,decide_eq_true ⟨by omega,hex⟩]at hP
        cases hP
        exact⟨by omega,by omega,by omega,by omega,fun v'=>⟨v',⟨rfl,rfl⟩, .inl ⟨rfl,rfl⟩⟩⟩
       ·rw[hpre,decide_eq_false (fun h=>hex h.2)]at hP
        exact hP
       ·rw[hpre,decide_eq_false (fun h=>by have:=h.1;omega)]at hP
        exact hP
      ·rintro -hP
       rw[qyz]at hP
       cases hP
  ·rintro v' -
   simp
   exact⟨k,j,v',out++ [t],⟨hk,hj.1,by simp;omega⟩,⟨⟨rfl,rfl⟩, .inl ⟨rfl,by simp⟩⟩,by omega⟩
 ·cases hk
end Go.Gv

namespace Go.Gv
open Cod (enc dec)
open Go.Proofs
variable {S S0:Nat->Spc}
def XJ:Glob:=⟨0,E0,E0,E0,E0,E0,false,0,0, [], []⟩
@[simp] abbrev PW(s:Pst)(z:List B×Int):Option (Pst×Int):=if s.e=0/\0<=z.2 then(xO s).bind fun t=>if t.kind≠110 then some (s, -1)else none else none
abbrev qaQ:Spc:=Uw (a2 (List B) Int) (enc (X:=Int)) PW
theorem qir(h1:S ig=qfu):oV mi lM S (a2 (List B) Int) (enc (X:=Int)) (fun s z=>∃r,PW s z=some r) (fun s z s' y=>PW s z=some (s',y)):=by
 rintro b s ⟨l,i⟩ ⟨r,hr⟩
 have hr0:=hr
 simp only[PW]at hr
 split at hr
 ·rename_i he
  obtain⟨he,hi0⟩:=he
  have hi0:0<=i:=hi0
  obtain⟨t,ht,hr⟩:=qxx.1 hr
  split at hr
  ·rename_i hk
   cases hr
   simp[mi,lM]
   refine av (X:=Int) [0,1] [0] (fun j=>0<=j) (fun j=>[(7,enc j)]) (fun _=>[]) (fun j=>(l.length -j).toNat) i hi0 (by simp) (by simp) ?_
   intro j hj
   have hj:0<=j:=hj
   have hno:∀x:B,WK s 110 x=some false:=fun x=>by rw[Ir he ht,decide_eq_false];exact fun h=>hk h.1
   simp[h1,hno]
   exact fun _=>⟨fun hl=>⟨hj,hl,fun a _=>⟨by simp only[InR];omega,j+1,by omega,rfl,by omega⟩⟩,fun _=>qtZ s (by simp) ⟨⟨he,hi0⟩,by rw[ht];simp[hk]⟩⟩
  ·cases hr
 ·cases hr
abbrev VO:Spc:=aI a0 (fun _=>True) (enc (X:=List B)) fun _ _=>True
theorem X5:aq tW tb S a0 (fun _=>True) (enc (X:=List B)) fun _ _=>True:=by
 rintro x -
 simp[tW,tb]
 exact cp (Y:=List B) [⟨#[]⟩,⟨#[119,105,116,104,105,110]⟩,⟨#[99,111,110,116,97,105,110,105,110,103]⟩,⟨#[111,118,101,114,108,97,112,112,105,110,103]⟩] (.same _) trivial
def XB(s:B)(y:Qry×Int×Int):Prop:=∃p,FK s=some p/\y=(⟨p,XJ, [],0⟩,0,0)
abbrev Wl:Spc:=aI (a1 B) (fun s=>∃p,FK s=some p) (qh0 (Y:=Qry) (Z:=Int) (W:=Int)) XB
theorem qgA{H:ab}{l l':List D}(h:FzL H l l'):FrzTo H (.agg l) (.agg l'):= .agg h.get.1 h.get.2
theorem qe5(h1:S C8=qaW)(h2:S pM=qhH)(h3:S dD=MP)(h4:S vJ=VO)(h5:S nJ=qaQ)(h6:S ig=qfu)(h7:S cN=Jm):
 aq yo xm S (a1 B) (fun s=>∃p,FK s=some p) (qh0 (Y:=Qry) (Z:=Int) (W:=Int)) XB:=by
 rintro s ⟨p,hp⟩
 have hp0:=hp
 unfold FK at hp
 split at hp
 ·rename_i hsz
  obtain⟨l,hl,hp⟩:=qxx.1 hp
  obtain⟨⟨s1,p1⟩,ha,hp⟩:=qxx.1 hp
  simp only at hp
  split at hp
  ·cases hp
  rename_i he
  have he:s1.e=0:=by simpa using he
  obtain⟨t,ht,hp⟩:=qxx.1 hp
  split at hp
  ·rename_i hk
   cases hp
   have hex:∃y,GZ s=some y:=⟨l,hl⟩
   have n1:rL s1 ⟨#[58,58]⟩=some (s1,false):=yl he ht (by omega)
   have n2:rL s1 ⟨#[33]⟩=some (s1,false):=yl he ht (by omega)
   have n3:WK s1 110 ⟨#[115,116,114,97,116,101,103,121]⟩=some false:=by rw[Ir he ht,decide_eq_false];omega
   have hsz':¬ (400:Int) < s.size:=by omega
   simp[yo,xm,h1,hsz',hex, -Bool.forall_bool]
   intro b2 _ l' hl' b16
   rw[hl]at hl'
   cases hl'
   simp[h2,ha,h3,n1]
   intro b6
   refine aR (X:=Unit) [2,5,6] [2,6,16] (fun _=>True) (fun _=>[]) (fun _=>[]) ?_ ?_
   ·simp
    refine av (X:=Unit) [2,5,6] [2,6,16] (fun _=>True) (fun _=>[]) (fun _=>[]) (fun _=>0) () trivial (by simp) (by simp) ?_
    rintro - -
    simp[h3,h4,h5,he,ER he,n2,ht,hk]
   rintro - -
   refine aR (X:=Unit) [2,5,6] [2,6,16] (fun _=>True) (fun _=>[]) (fun _=>[]) ?_ ?_
   ·simp[h6,n3]
   rintro - -
   refine aR (X:=Unit) [2,5,6] [2,6,16] (fun _=>True) (fun _=>[]) (fun _=>[]) ?_ ?_
   ·simp[h7,he,ER he,ht,hk]
   rintro - -
   simp[he]
   refine⟨⟨p,XJ, [],0⟩,qgA ?_,p,hp0,rfl⟩
   simp[XJ,E0]
  ·cases hp
 ·cases hp
end Go.Gv

namespace Go.Gv
open Go.Proofs
def qjW:List B:=[⟨#[97]⟩,⟨#[98]⟩]
def knX:oW:=⟨⟨#[116]⟩,0,4, []⟩
def knR:Rn:=FJ plC qjW knX
def qlB:Pat:=⟨1,⟨2,E0,E0,⟨#[97]⟩,E0,false, []⟩,⟨#[97]⟩,E0,0,0, []⟩
def qlA:Pat:=⟨1,⟨2,E0,E0,⟨#[98]⟩,E0,false, []⟩,⟨#[98]⟩,E0,0,0, []⟩
def qjV:Pat:=⟨1,⟨1,E0,E0,E0,E0,false, []⟩,E0,E0,0,0, []⟩
def qjU:Pat:=⟨6,Cond0,E0,E0,0, -1, [qjV]⟩
theorem EE:aS EF []=qjW:=by kernel_rfl
theorem Zc:aM EF=[qlB,qjV,qlA]:=by kernel_rfl
theorem WH:(decide (kB EF<=256) && decide (jg EF<=1000))=true:=by kernel_rfl
theorem qnk:([qlB,qjV,qlA].all fun x=>qhN plC.attrs qjW x.cond)=true:=by kernel_rfl
theorem qga(vs:List Int)(q:Pat)(hq:q=qlB\/q=qlA\/q=qjV):((List.range 4).all fun i=>(xX ⟨plC,(i:Int),qjW,vs⟩ 21 q.cond).isSome)=true:=by
 rcases hq with rfl|rfl|rfl <;> kernel_rfl
theorem qjT:((List.range 4).map fun(i:Nat)=>Su knR EF (Je (i:Int)))=[[⟨2,1,2,0⟩,⟨4,1,4,0⟩], [], [⟨4,3,4,0⟩], []]:=by kernel_rfl
theorem qcq{b:B}(h:b=⟨#[97]⟩\/b=⟨#[98]⟩):aZ b=true:=by
 rw[xe]
 rcases h with rfl|rfl
 all_goals
  refine⟨by decide,by decide,fun c hc=>by cases hc;rfl,fun k c hc=>?_⟩
  rcases k with _|k
  ·cases hc;rfl
  ·simp at hc
theorem Km{C:Pat->Prop}(h0:C EF)(h1:C qjU)(h2:C qlB)(h3:C qlA)(h4:C qjV):ll C EF:=by
 intro q hq
 have:q∈ [EF,qlB,qjU,qjV,qlA]:=hq
 simp only[qxD,qxY,or_false]at this
 rcases this with rfl|rfl|rfl|rfl|rfl
 ·exact h0
 ·exact h2
 ·exact h1
 ·exact h4
 ·exact h3
theorem Iq:ll (fun q=>uv q/\uB q=true/\uO aZ q=true) EF:=by
 have v0:∀q:Pat,q.op≠2->q.op≠3->(q.lab≠ ⟨#[]⟩->aZ q.lab=true)->uO aZ q=true:=fun q h2 h3 h=>by
  unfold uO
  rw[decide_eq_true_eq]
  exact⟨fun h'=>by omega,h⟩
 refine Km ⟨.inr (.inr (.inl ⟨.inl rfl,rfl,rfl,rfl,rfl,rfl,by decide⟩)),rfl,v0 _ (by decide) (by decide) fun h=>absurd rfl h⟩
  ⟨.inr (.inr (.inr ⟨rfl,rfl,rfl,rfl,rfl⟩)),rfl,v0 _ (by decide) (by decide) fun h=>absurd rfl h⟩
  ⟨.inl ⟨rfl,rfl,rfl,rfl,rfl⟩,rfl,v0 _ (by decide) (by decide) fun _=>qcq (.inl rfl)⟩ ⟨.inl ⟨rfl,rfl,rfl,rfl,rfl⟩,rfl,v0 _ (by decide) (by decide) fun _=>qcq (.inr rfl)⟩
  ⟨.inl ⟨rfl,rfl,rfl,rfl,rfl⟩,rfl,v0 _ (by decide) (by decide) fun h=>absurd rfl h⟩
theorem Cr{f:Pat->Bool}(p:Pat)(h:ll (fun q=>f q=true) p):eW f p=true:=by
 induction p using fL with|_ p ih=>?_
 rw[eI,jY h,qzp,qxF]
 exact fun k hk=>ih k hk (qM h hk)
theorem qcr:kP aZ EF=true:=by
 unfold kP
 rw[Cr EF (sK Iq fun q h=>(wM q).2 h.1),Cr EF (sK Iq fun q h=>h.2.2),Cr EF (sK Iq fun q h=>h.2.1)]
 rfl
theorem qjR:ql4 plC.attrs ⟨EF,GlobE, [],0⟩:=by
 have hn:=WH
 simp only[qxH,decide_eq_true_eq]at hn
 refine⟨rfl,rfl,rfl,qcr,hn.1,by rw[EE];decide,by show jg EF<=1000000;omega,by decide,fun x hx=>?_⟩
 have hx:x∈aM EF:=hx
 rw[Zc]at hx
 have h:=qxF.1 qnk x hx
 rw[show aS (Qry.mk EF GlobE [] 0).pat []=qjW from EE]
 refine⟨h,1,?_⟩
 simp only[qxD,qxY,or_false]at hx
 rcases hx with rfl|rfl|rfl <;> exact⟨by decide,fun k hk=>by cases hk⟩
theorem UG{q:Pat}(hq:q=qlB\/q=qlA\/q=qjV)(s:St3)(h:P2 knR.en s)(h2:s.p < knR.en):∃y,BB knR q s=some y:=by
 have h2:s.p < 4:=h2
 have h0:=h.1
 obtain⟨i,hi,e⟩:∃i:Nat,i < 4/\(i:Int)=s.p:=⟨s.p.toNat,by omega,by omega⟩
 have:=qxF.1 (qga (NB knR s) q hq) i (qyU.2 hi)
 unfold BB
 rw[<-e]
 exact qyv.1 this
theorem qjS:XL plC EF:=by
 have hn:=WH
 simp only[qxH,decide_eq_true_eq]at hn
 refine⟨⟨by decide,by decide,by decide⟩,by decide,qcr,by rw[EE];decide,by omega,fun t ht=>?_⟩
 have e:t=knX:=by simpa [plC,knX]using ht
 subst e
 rw[EE]
 have hop:∀q:Pat,q.op≠1->uv q->uB q=true->(q.lab≠se->qR qjW q.lab=true)->qhl knR q:=fun q h1 h2 h3 h4=>⟨h2,h3,h4,fun h=>absurd h h1⟩
 have g:=Iq
 refine Km (hop _ (by decide) (g EF (by simp[G9])).1 rfl fun h=>absurd rfl h) (hop _ (by decide) (g qjU (.tail _ (.tail _ (.head _)))).1 rfl fun h=>absurd rfl h) ⟨.inl ⟨rfl,rfl,rfl,rfl,rfl⟩,rfl,fun _=>rfl,fun _=>UG (.inl rfl)⟩ ⟨.inl ⟨rfl,rfl,rfl,rfl,rfl⟩,rfl,fun _=>rfl,fun _=>UG (.inr (.inl rfl))⟩ ⟨.inl ⟨rfl,rfl,rfl,rfl,rfl⟩,rfl,fun h=>absurd rfl h,fun _=>UG (.inr (.inr rfl))⟩
theorem qnl:qoH plC ⟨EF,GlobE, [],0⟩:=⟨qjR,qjS⟩
def knM:List Match:=[⟨0,2, [0,1]⟩,⟨0,4, [0,3]⟩,⟨2,4, [2,3]⟩]
theorem O5{i:Int}(h0:0<=i)(h1:i < 4):LW plC i=some knX:=by
 unfold LW
 show List.find? _ [knX]=_
 rw[List.find?_cons,show(decide (knX.b<=i) && decide (i < knX.e))=true by rw[qxH,decide_eq_true_iff,decide_eq_true_iff];exact⟨h0,h1⟩]
theorem qnm:Vu plC qjW EF knM:=by
 refine⟨.cons (fun x hx=>?_) (.cons (fun x hx=>?_) (.cons (fun x hx=>by cases hx) .nil)),fun m=>?_⟩
 ·simp only[qxD,qxY,or_false]at hx
  rcases hx with rfl|rfl <;> (unfold RC;decide)
 ·simp only[qxD,qxY,or_false]at hx
  subst hx
  (unfold RC;decide)
 have hd:∀i:Nat,i < 4->∀s,lJ knR EF (Je (i:Int)) s↔s∈Su knR EF (Je (i:Int)):=fun i hi s=>by
  refine(Be knR (by decide) EF ?_ (Je (i:Int)) ⟨by simp[Je],?_,fun j=>?_⟩ s).symm
  ·exact Km (.inr (.inr (.inr (.inl rfl)))) (.inr (.inr (.inr (.inr (.inr (by decide)))))) (.inl rfl) (.inl rfl) (.inl rfl)
  ·show(i:Int)<=4;omega
  ·rcases j with _|_|j <;> exact⟨qy8 0,(by decide:(0:Int)<=4)⟩
 have hk:=qjT
 simp only[List.range,List.range.loop,qxZ,qyL,qx0,and_true]at hk
 obtain⟨e0,e1,e2,e3⟩:=hk
 constructor
 ·intro hm
  simp only[knM,qxD,qxY,or_false]at hm
  rcases hm with rfl|rfl|rfl
  ·exact⟨by decide,by decide,knX,O5 (by decide) (by decide),⟨2,1,2,0⟩,(hd 0 (by decide) _).2 (by rw[e0];simp),by decide,rfl,rfl⟩
  ·exact⟨by decide,by decide,knX,O5 (by decide) (by decide),⟨4,1,4,0⟩,(hd 0 (by decide) _).2 (by rw[e0];simp),by decide,rfl,rfl⟩
  ·exact⟨by decide,by decide,knX,O5 (by decide) (by decide),⟨4,3,4,0⟩,(hd 2 (by decide) _).2 (by rw[e2];simp),by decide,rfl,rfl⟩
 ·rintro⟨h0,h1,t,ht,s,hs,h3,h4,h5⟩
  obtain⟨b,e,l⟩:=m
  simp only at h0 h1 ht hs h3 h4 h5
  have h1:b < 4:=h1
  rw[O5 h0 h1]at ht
  cases ht
  obtain⟨i,hi,rfl⟩:∃i:Nat,i < 4/\(i:Int)=b:=⟨b.toNat,by omega,by omega⟩
  have hs:=(hd i hi s).1 hs
  subst h4 h5
  rcases i with _|_|_|_|i
  ·rw[e0]at hs
   simp only[qxD,qxY,or_false]at hs
   rcases hs with rfl|rfl
   ·exact .head _
   ·exact .tail _ (.head _)
  ·rw[e1]at hs;cases hs
  ·rw[e2]at hs
   simp only[qxD,qxY,or_false]at hs
   subst hs
   exact .tail _ (.tail _ (.head _))
  ·rw[e3]at hs;cases hs
  ·omega
end Go.Gv

namespace Go.Gv
open Go.Proofs
open Cod (enc dec)
variable {S S0:Nat->Spc}
abbrev MM:Spc:=aI a0 (fun _=>True) enc (fun(_:Unit) (y:Bool)=>y=true)
theorem X1(h1:S AC=Wl)(h2:S vO=VS)(h3:S ip=qhG)(h4:S C7=VR):aq ul tr S a0 (fun _=>True) enc (fun(_:Unit) (y:Bool)=>y=true):=by
 rintro x -
 have hex:∃p,FK ⟨#[97,58,34,97,34,32,91,93,42,32,98,58,34,98,34]⟩=some p:=⟨_,Nb⟩
 simp[ul,tr,h1,hex, -Bool.forall_bool, -Bool.exists_bool]
 rintro q a b ⟨p,hp,e⟩ b1
 cases e
 have e:p=EF:=qxO (hp.symm.trans Nb)
 subst e
 have hM:qoH plC ⟨EF,XJ, [],0⟩:=qnl
 have hpl:(⟨#[97,98,97,98]⟩:B)=abT:=rfl
 simp[h2,h3,h4,hpl, -Bool.forall_bool, -Bool.exists_bool]
 have hi:Vu plC (aS EF []) EF knM:=by rw[EE];exact qnm
 refine⟨hM,fun l e hq=>?_⟩
 rcases hq with⟨h1,h2,h3⟩|⟨_,_,k,l',h3,h4⟩
 ·have e1:l=knM:=qgh h2 hi
  subst e1
  refine⟨fun _=>⟨⟨fun m hm=>?_,?_,?_,?_⟩,fun y hy=>hy.2 rfl⟩,h1⟩
  ·simp only[knM,qxD,qxY,or_false]at hm
   rcases hm with rfl|rfl|rfl <;> (unfold EM;decide)
  ·unfold EM;decide
  ·unfold EM;decide
  ·unfold EM;decide
 ·have h5:=qiT h3 hi
  have:knM.length=3:=rfl
  omega
end Go.Gv

namespace Go.Gv
open Go.Proofs
open Cod (enc dec)
variable {S S0:Nat->Spc}
end Go.Gv
