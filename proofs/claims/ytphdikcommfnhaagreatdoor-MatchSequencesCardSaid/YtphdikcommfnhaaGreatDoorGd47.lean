/- A part of the framework and of the walks: W195 W196 W197 V67 W198 W199. -/
import Derived.Test.YtphdikcommfnhaaGreatDoorGd46
import Derived.Test.YtphdikcommfnhaaGreatDoorGd40
set_option linter.unusedSimpArgs false
set_option linter.unusedVariables false
set_option linter.unusedSectionVars false
set_option maxRecDepth 100000

namespace Go.Gv
open Cod (enc dec)
variable {S S0:Nat->Spc}
theorem qdA{H:ab}{op o:Int}{n a v l lb rg:B}{f:Bool}{cd d:D}{mn mx:Int}(cks:List Cond)(ks:List Pat)(hc:FrzTo H cd (enc cks))(hd:FrzTo H d (enc ks)):
 FrzTo H (.agg [.v (.int .i64 op), .v (.int .i64 o), .v (.string n), .v (.string a), .v (.string v), .v (.string l), .v (.bool f),cd, .v (.string lb), .v (.string rg), .v (.int .i64 mn), .v (.int .i64 mx),d]) (enc (⟨op,⟨o,n,a,v,l,f,cks⟩,lb,rg,mn,mx,ks⟩:Pat)):=by
 rw[NZ]
 refine .agg rfl fun k x y hx hy=>?_
 rcases k with _|_|_|_|_|_|_|_|_|_|_|_|_|k
 ·cases hx;cases hy;exact .same _
 ·cases hx;cases hy;exact .same _
 ·cases hx;cases hy;exact .same _
 ·cases hx;cases hy;exact .same _
 ·cases hx;cases hy;exact .same _
 ·cases hx;cases hy;exact .same _
 ·cases hx;cases hy;exact .same _
 ·cases hx;cases hy;exact hc
 ·cases hx;cases hy;exact .same _
 ·cases hx;cases hy;exact .same _
 ·cases hx;cases hy;exact .same _
 ·cases hx;cases hy;exact .same _
 ·cases hx;cases hy;exact hd
 ·simp at hx
theorem qam{b:Nat}{post:Pst->Pat->Prop}{H:ab}{op o:Int}{n a v l lb rg:B}{f:Bool}{cd d:D}{mn mx:Int}(s:Pst)(cks:List Cond)(ks:List Pat)(hc:FrzTo (fun i=>if i=0 then none else H i) cd (enc cks))(hd:FrzTo (fun i=>if i=0 then none else H i) d (enc ks))
 (h0:H 0=some (.box b (ld s))) (hq:post s ⟨op,⟨o,n,a,v,l,f,cks⟩,lb,rg,mn,mx,ks⟩):
 J3 enc b post (.agg [.v (.int .i64 op), .v (.int .i64 o), .v (.string n), .v (.string a), .v (.string v), .v (.string l), .v (.bool f),cd, .v (.string lb), .v (.string rg), .v (.int .i64 mn), .v (.int .i64 mx),d]) H:=
 DH s _ (qdA cks ks hc hd) h0 hq
theorem Tx{s:Pst}{t:B}{r:Pst×Bool}(h:qQ s t=some r):(r=(s,false)/\UH s 111 t=some false)\/(r=(s.step,true)/\UH s 111 t=some true):=by
 unfold qQ at h
 obtain⟨v,hv,rfl⟩:=qt6.1 h
 cases v
 ·exact .inl ⟨rfl,hv⟩
 ·exact .inr ⟨rfl,hv⟩
theorem xo{s:Pst}{x:F2}{t:B}(he:s.e=0)(hx:wV s=some x)(h:¬ (x.kind=111/\x.text=t)):qQ s t=some (s,false):=by
 rw[qQ,G4 he hx,decide_eq_false h];rfl
theorem qdP{s:Pst}{x:F2}{t:B}(he:s.e=0)(hx:wV s=some x)(h1:x.kind=111)(h2:x.text=t):qQ s t=some (s.step,true):=by
 rw[qQ,G4 he hx,decide_eq_true ⟨h1,h2⟩];rfl
@[simp] abbrev Oy(s:Pst)(_:Unit):Option (Pst×Pat):=ZT s
abbrev Ss:Spc:=SO a0 (enc (X:=Pat)) Oy
@[simp] abbrev Vy(s:Pst)(_:Unit):Option (Pst×Pat):=qcK s
abbrev YO:Spc:=SO a0 (enc (X:=Pat)) Vy
@[simp] abbrev Vx(s:Pst)(_:Unit):Option (Pst×Pat):=YI s
abbrev YM:Spc:=SO a0 (enc (X:=Pat)) Vx
@[simp] abbrev VA(s:Pst)(_:Unit):Option (Pst×Pat):=qbn s
abbrev YS:Spc:=SO a0 (enc (X:=Pat)) VA
theorem X8{s:Pst}{x:F2}{k:Int}{t:B}(he:s.e=0)(hx:wV s=some x)(h1:x.kind=k)(h2:k=111->x.text=t):Ce s k t=some (s.step,x.text):=by
 rw[Ce,if_neg (by simp[he]),hx,qud,if_neg (by rintro(h|h);exact h h1;exact h.2 (h2 h.1))]
theorem HE{s s':Pst}{lb:B}{y:Pat}(h:MD s lb=some (s',y)):s.e=0/\∃x,wV s=some x/\((x.kind=115/\Ce s 115 ⟨#[]⟩=some (s.step,x.text)/\∃w,qQ s.step ⟨#[37,99]⟩=some (s',w)/\y=⟨1,⟨2,E0,E0,x.text,E0,w, []⟩,lb,E0,0,0, []⟩)\/
 (x.kind≠115/\∃u t,Ce s 111 ⟨#[91]⟩=some (u,t)/\qQ u ⟨#[93]⟩=some (s',true)/\y=⟨1,⟨1,E0,E0,E0,E0,false, []⟩,lb,E0,0,0, []⟩)):=by
 unfold MD at h
 split at h
 ·cases h
 rename_i he
 have he:s.e=0:=by simpa using he
 obtain⟨x,hx,h⟩:=qtT.1 h
 refine⟨he,x,hx,?_⟩
 split at h
 ·rename_i hk
  obtain⟨⟨s2,w⟩,hf,h⟩:=qt6.1 h
  cases h
  exact .inl ⟨hk,X8 he hx hk (fun h=>absurd h (by decide)),w,hf,rfl⟩
 ·rename_i hk
  obtain⟨⟨u,t⟩,hu,h⟩:=qtT.1 h
  obtain⟨⟨s2,w⟩,hf,h⟩:=qtT.1 h
  cases w with
  | false=>simp at h
  | true=>
    simp at h
    obtain⟨rfl,rfl⟩:=h
    exact .inr ⟨hk,u,t,hu,hf,rfl⟩
set_option maxHeartbeats 1000000 in
theorem qfs(h1:S aK=vH)(h2:S bq=yU)(h3:S iU=Se)(h4:S iX=Sw):
 ol dC du S a0 (enc (X:=Pat)) (fun s z=>∃r,Oy s z=some r) (fun s z s' y=>Oy s z=some (s',y)):=by
 rintro b s ⟨⟩ ⟨⟨s',y⟩,hr⟩
 have hr0:=hr
 simp only[Oy,ZT]at hr
 split at hr
 ·cases hr
 rename_i he
 have he:s.e=0:=by simpa using he
 obtain⟨x,hx,hr⟩:=qtT.1 hr
 split at hr
 ·cases hr
 rename_i hx1
 have n1:qQ s ⟨#[40]⟩=some (s,false):=xo he hx fun h=>hx1 ⟨h.1,by rw[h.2];decide⟩
 have n2:qQ s ⟨#[60]⟩=some (s,false):=xo he hx fun h=>hx1 ⟨h.1,by rw[h.2];decide⟩
 have n3:qQ s ⟨#[60,47]⟩=some (s,false):=xo he hx fun h=>hx1 ⟨h.1,by rw[h.2];decide⟩
 split at hr
 ·rename_i hk
  obtain⟨⟨s1,t1⟩,hc,hr⟩:=qtT.1 hr
  simp only at hr
  have hw:=X8 (k:=110) (t:=⟨#[]⟩) he hx hk (fun h=>absurd h (by decide))
  obtain⟨he1,x1,hx1,(⟨k1,w1,w,hf,rfl⟩|⟨k1,u,t,hu,hf,rfl⟩)⟩:=HE hr
  ·simp[dC,du,h1,h2,h3,h4,n1,n2,n3,he,DK he,hx,hk,hw,hc,he1,DK he1,hx1,k1,w1,hf, -Bool.forall_bool, -Bool.exists_bool]
   exact fun b1=>qam s' [] [] (.nil _) (.nil _) (by simp) hr0
  ·simp[dC,du,h1,h2,h3,h4,n1,n2,n3,he,DK he,hx,hk,hw,hc,he1,DK he1,hx1,k1,hu,hf, -Bool.forall_bool, -Bool.exists_bool]
   exact fun b1=>qam s' [] [] (.nil _) (.nil _) (by simp) hr0
 ·rename_i hk
  obtain⟨_,x1,hx1,h⟩:=HE hr
  rw[hx]at hx1
  cases hx1
  obtain(⟨k1,w1,w,hf,rfl⟩|⟨k1,u,t,hu,hf,rfl⟩):=h
  ·simp[dC,du,h1,h2,h3,h4,n1,n2,n3,he,DK he,hx,k1,w1,hf, -Bool.forall_bool, -Bool.exists_bool]
   exact fun b1=>qam s' [] [] (.nil _) (.nil _) (by simp) hr0
  ·simp[dC,du,h1,h2,h3,h4,n1,n2,n3,he,DK he,hx,hk,k1,hu,hf, -Bool.forall_bool, -Bool.exists_bool]
   exact fun b1=>qam s' [] [] (.nil _) (.nil _) (by simp) hr0
set_option maxHeartbeats 1000000 in
theorem qiM(h1:S aK=vH)(h2:S bq=yU)(h5:S iW=Ss):
 ol nN mO S a0 (enc (X:=Pat)) (fun s z=>∃r,Vy s z=some r) (fun s z s' y=>Vy s z=some (s',y)):=by
 rintro b s ⟨⟩ ⟨⟨s',y⟩,hr⟩
 have hr0:=hr
 simp only[Vy,qcK]at hr
 obtain⟨⟨s1,x1⟩,hi,hr⟩:=qtT.1 hr
 simp only at hr
 simp[nN,mO,h5,hi]
 intro b2 b3
 refine rR (X:=Nat×Pst×Pat) [0,2,3] [2] [] [] [] [] (fun z=>zg z.1 z.2.1 z.2.2=some (s',y)) (fun _=>[]) (fun z=>[(0, .box b (ld z.2.1)),(3, .box b3 (enc z.2.2).cells)]) (fun z=>z.1) (9,s1,x1) [0,3] (fun _=>rfl) (by decide) (by decide) hr (by simp) (by simp) ?_
 clear hr hi
 rintro⟨k,s,x⟩ hk
 simp only at hk
 obtain _|k:=k
 ·rw[zg]at hk;cases hk
 rw[zg]at hk
 split at hk
 ·cases hk
 rename_i he
 have he:s.e=0:=by simpa using he
 obtain⟨t,ht,hk⟩:=qtT.1 hk
 split at hk
 ·cases hk
 rename_i hno
 have n1:qQ s ⟨#[63]⟩=some (s,false):=xo he ht fun h=>hno ⟨h.1, .inl h.2⟩
 have n3:qQ s ⟨#[43]⟩=some (s,false):=xo he ht fun h=>hno ⟨h.1, .inr (.inl h.2)⟩
 have n4:qQ s ⟨#[123]⟩=some (s,false):=xo he ht fun h=>hno ⟨h.1, .inr (.inr h.2)⟩
 split at hk
 ·rename_i hb
  have y2:=qdP he ht hb.1 hb.2
  simp[h1,h2,he,DK he,ht,n1,y2, -Bool.forall_bool, -Bool.exists_bool]
  exact⟨k,s.step,⟨6,lj,E0,E0,0, -1, [x]⟩,hk,⟨.inl (.inl ⟨rfl,rfl,rfl,rfl,rfl⟩), .inl (by simp[lj,E0])⟩,by omega⟩
 ·rename_i hb
  have n2:qQ s ⟨#[42]⟩=some (s,false):=xo he ht hb
  cases hk
  simp[h1,h2,he,DK he,ht,n1,n2,n3,n4, -Bool.forall_bool, -Bool.exists_bool]
  exact DH s' y (by simp) (by simp[he]) hr0
theorem qcP{op:Int}{l:List Pat}(h:l.length≠1):qeF op l=⟨op,lj,E0,E0,0,0,l⟩:=by
 match l,h with
 | [],_=>rfl
 | [x],h=>exact absurd rfl h
 | x::y::l,_=>rfl
theorem qiK(h1:S fP=Bg)(h2:S jV=YO):
 ol nM mN S a0 (enc (X:=Pat)) (fun s z=>∃r,Vx s z=some r) (fun s z s' y=>Vx s z=some (s',y)):=by
 rintro b s ⟨⟩ ⟨⟨s',y⟩,hr⟩
 have hr0:=hr
 simp only[Vx,YI]at hr
 obtain⟨⟨s1,x1⟩,hi,hr⟩:=qtT.1 hr
 obtain⟨⟨s2,l2⟩,hl,hr⟩:=qt6.1 hr
 simp only at hl hr
 cases hr
 simp[nM,mN,h2,hi]
 intro b2 v0
 refine av (X:=Nat×Pst×Value×List Pat) [0,2] [2] (fun z=>yQ z.1 z.2.1 z.2.2.2=some (s',l2)/\z.2.2.2.length+z.1<=10) (fun z=>[(3, .own 6 z.2.2.1)]) (fun z=>[(0, .box b (ld z.2.1)),(6, .row z.2.2.1 gp 13 (z.2.2.2.map enc))]) (fun z=>z.1) (9,s1,v0, [x1]) ⟨hl,by simp⟩ (by simp) (by simp) ?_
 clear hr hl hi
 rintro⟨k,s,v,l⟩ ⟨hk,hlen⟩
 simp only at hk hlen
 obtain _|k:=k
 ·rw[yQ]at hk;cases hk
 rw[yQ]at hk
 obtain⟨v1,hb,hk⟩:=qtT.1 hk
 cases v1
 ·simp only[quC,if_false]at hk
  cases hk
  simp[h1,hb, -Bool.forall_bool, -Bool.exists_bool]
  clear h1 h2
  refine fun _=>⟨fun h1=>⟨by omega,fun a ha=>?_⟩,fun hne=>?_⟩
  ·have e:l2=[a]:=by
    match l2,h1,ha with
    | [x],_,ha=>simp at ha;rw[ha]
   rw[e]at hr0
   exact DH s' a (by simp) (by simp) hr0
  ·rw[qcP (by omega)]at hr0
   exact qam s' [] l2 (.nil _) (jj gp (by simp)) (by simp) hr0
 ·simp only[if_true]at hk
  obtain⟨⟨s3,x3⟩,hx,hk⟩:=qtT.1 hk
  simp only at hk
  simp[h1,hb,h2,hx, -Bool.forall_bool, -Bool.exists_bool]
  exact⟨by omega,by omega,fun v'=>⟨k,s3,v',l++ [x3],⟨hk,by simp;omega⟩,⟨rfl, .inl ⟨rfl,rfl,rfl,rfl,rfl⟩, .inl ⟨rfl,by simp⟩⟩,by omega⟩⟩
theorem qiQ(h1:S bq=yU)(h2:S jU=YM):
 ol nQ mR S a0 (enc (X:=Pat)) (fun s z=>∃r,VA s z=some r) (fun s z s' y=>VA s z=some (s',y)):=by
 rintro b s ⟨⟩ ⟨⟨s',y⟩,hr⟩
 have hr0:=hr
 simp only[VA,qbn]at hr
 obtain⟨⟨s1,x1⟩,hi,hr⟩:=qtT.1 hr
 simp only at hr
 obtain⟨⟨s2,w⟩,hw,hr⟩:=qtT.1 hr
 cases w with
 | true=>simp at hr
 | false=>
   simp at hr
   obtain⟨rfl,rfl⟩:=hr
   obtain⟨e,_⟩|⟨e,_⟩:=Tx hw
   ·cases e
    simp[nQ,mR,h2,hi]
    intro b2 v0
    refine av (X:=Unit) [0,2,3] [0,2,6] (fun _=>True) (fun _=>[]) (fun _=>[]) (fun _=>0) () trivial (by simp) (by simp) ?_
    rintro - -
    simp[h1,hw, -Bool.forall_bool, -Bool.exists_bool]
    exact DH s1 x1 (by simp) (by simp) hr0
   ·cases e
end Go.Gv

namespace Go.Gv
open Cod (enc dec)
variable {S S0:Nat->Spc}
def qgZ(c:Int):Bool:=decide (48<=c/\c<=57)
abbrev Ev:Spc:=bj (a1 U8) (fun _=>True) (enc (X:=Bool)) fun x y=>y=qgZ x.val
theorem RC:ar qT qE S (a1 U8) (fun _=>True) (enc (X:=Bool)) fun x y=>y=AN x.val:=by
 rintro⟨c⟩ -
 simp[qT,qE,AN]
 repeat' first|apply And.intro|intro _
 all_goals first|omega|(rw[quD];simp;omega)
theorem VL:ar te sA S (a1 U8) (fun _=>True) (enc (X:=Bool)) fun x y=>y=qgZ x.val:=by
 rintro⟨c⟩ -
 simp[te,sA,qgZ]
 repeat' first|apply And.intro|intro _
 all_goals first|omega|(rw[quD];simp;omega)
abbrev MT:Spc:=bj a0 (fun _=>True) (enc (X:=List B)) fun _ y=>y=signsL
theorem qb5:ar xr wy S a0 (fun _=>True) (enc (X:=List B)) fun _ y=>y=signsL:=by
 rintro x -
 simp[xr,wy]
 exact cX signsL (.same _) rfl
theorem UG{s:B}{i:Nat}{c:UInt8}(h:s.data[i]? =some c):qdk s i=decide (c.toNat=32\/c.toNat=10):=by rw[qdk,h]
theorem qd5{s:B}{i:Nat}(h:i < s.size):∃c,s.data[i]? =some c:=⟨s.data[i],quX h⟩
theorem Pi(s:B):∀ (n i:Nat),s.size -i=n->i<=s.size->i<=tS s i/\tS s i<=s.size
 | 0,i,h,hi=>by rw[Lm (by omega)];omega
 | n+1,i,h,hi=>by
   rw[Bd (by omega)]
   split
   ·have:=Pi s n (i+1) (by omega) (by omega);omega
   ·omega
theorem G5{s:B}{i:Nat}{c:UInt8}(h:s.data[i]? =some c):ZV s i=(AN c.toNat||qgZ c.toNat||decide ((c.toNat:Int)=45)):=by
 unfold ZV ZO AN qgZ
 rw[h,quD]
 simp
 omega
theorem PY(c:UInt8):ZO c.toNat=AN (c.toNat:Int):=by unfold ZO AN;rw[quD];simp;omega
abbrev Sj:Spc:=bj (a1 B) (fun s=>∃r,FJ s=some r) (enc (X:=List F2)) fun s y=>FJ s=some y
theorem qfh(h1:S nq=qj)(h2:S pM=Ev)(h3:S ud=MT):ar zR yX S (a1 B) (fun s=>∃r,FJ s=some r) (enc (X:=List F2)) fun s y=>FJ s=some y:=by
 rintro s ⟨fin,hfin⟩
 have hsz:s.size<=100000:=by
  by_cases h:s.size<=100000
  ·exact h
  ·rw[FJ,if_neg h]at hfin;cases hfin
 have hfin0:=hfin
 rw[FJ,if_pos hsz]at hfin
 simp[zR,yX]
 refine av (X:=Nat×Nat×Value×List F2) [0] [] (fun z=>HU z.1 s z.2.1 z.2.2.2=some fin/\z.2.1<=s.size/\z.2.2.2.length<=z.2.1) (fun z=>[(3, .own 200 z.2.2.1),(4,enc (z.2.1:Int))]) (fun z=>[(200, .row z.2.2.1 iy 3 (z.2.2.2.map enc))]) (fun z=>z.1) (100000,0, .slice none 0 0, []) ⟨hfin,by simp,by simp⟩ (by simp) (by simp[isNilRow]) ?_
 clear hfin
 rintro⟨k,i,v,out⟩ ⟨hk,hi,hlen⟩
 simp only at hk hi hlen
 obtain _|k:=k
 ·rw[HU]at hk;cases hk
 rw[HU]at hk
 simp
 refine bD (X:=Unit) [0,3] [200] (fun _=>True) (fun _=>[(4,enc ((tS s i:Nat):Int))]) (fun _=>[]) ?_ ?_
 ·simp
  refine av (X:=Nat) [0,3] [200] (fun j=>i<=j/\j<=s.size/\tS s j=tS s i) (fun j=>[(4,enc (j:Int))]) (fun _=>[]) (fun j=>s.size -j) i ⟨qt4 _,hi,rfl⟩ (by simp) (by simp) ?_
  rintro j ⟨j0,j1,j2⟩
  simp
  refine fun _=>⟨fun hj=>⟨hj,fun c hc=>⟨fun h32=>⟨hj,fun c' hc'=>?_⟩,fun h32=>?_⟩⟩,fun hj=>?_⟩
  ·rw[hc]at hc'
   cases hc'
   have hst:=Bd hj
   rw[UG hc]at hst
   refine⟨fun h10=>⟨by simp only[InR];omega,j+1,⟨by omega,by omega,?_⟩,by omega,by omega⟩,fun h10=>?_⟩
   ·rw[<-j2,hst,if_pos (by simp;omega)]
   ·rw[<-j2,hst,if_neg (by simp;omega)]
  ·have hst:=Bd hj
   rw[UG hc]at hst
   refine⟨by simp only[InR];omega,j+1,⟨by omega,by omega,?_⟩,by omega,by omega⟩
   rw[<-j2,hst,if_pos (by simp;omega)]
  ·rw[<-j2,Lm hj]
 rintro - -
 have hsk:=Pi s _ i rfl hi
 generalize hi':tS s i=i' at hk hsk
 simp
 refine fun _=>⟨fun he=>⟨by omega,by omega,fun v'=>?_⟩,fun hne=>?_⟩
 ·rw[if_pos (by omega)]at hk
  refine cX fin (jj iy ?_) hfin0
  cases hk
  rw[show(i':Int)=(s.size:Int) by omega]
  simp
 rw[if_neg (by omega)]at hk
 obtain⟨⟨j,t⟩,ht,hk⟩:=qtT.1 hk
 simp only at hk
 split at hk
 ·rename_i hj
  refine bD (X:=Value) [0] [] (fun _=>True) (fun v'=>[(5,enc (j:Int)),(3, .own 200 v')]) (fun v'=>[(200, .row v' iy 3 ((out++ [t]).map enc))]) ?_ ?_
  ·obtain⟨c,hc⟩:=qd5 (s:=s) (i:=i') (by omega)
   unfold qiY at ht
   rw[hc]at ht
   simp only at ht
   split at ht
   ·rename_i hL
    cases ht
    have hbeg:AN (c.toNat:Int)=true:=by rw[<-PY];exact hL
    simp[h1,h2,hc,hbeg]
    refine⟨by omega,?_⟩
    refine av (X:=Nat) [0,3,4] [200] (fun j=>i'<=j/\j<=s.size/\EV s j=EV s i') (fun j=>[(5,enc (j:Int))]) (fun _=>[]) (fun j=>s.size -j) i' ⟨qt4 _,by omega,rfl⟩ (by simp) (by simp) ?_
    rintro j ⟨j0,j1,j2⟩
    have go:∀c:UInt8,s.data[j]? =some c->ZV s j=true->InR .i64 ((j:Int) +1)/\∃y,(i'<=y/\y<=s.size/\EV s y=EV s i')/\(j:Int) +1=y/\s.size -y < s.size -j:=fun c hc hn=>by
     have hj:j < s.size:=(qt3.1 hc).1
     refine⟨by simp only[InR];omega,j+1,⟨by omega,by omega,?_⟩,by omega,by omega⟩
     rw[<-j2,LB hj,hn,if_pos rfl]
    have stop:EV s j=j->EV s i'=j:=fun h=>by rw[<-j2,h]
    simp[h1,h2]
    clear h1 h2 h3 hc hL hbeg
    refine fun _=>⟨fun hj=>⟨hj,fun c hc=>⟨fun b1=>⟨hj,fun c2 hc2=>⟨fun b2=>⟨hj,fun c3 hc3=>⟨fun b3=>?_,fun b3=>?_⟩⟩,fun b2=>?_⟩⟩,fun b1=>?_⟩⟩,fun hj=>?_⟩
    ·rw[hc]at hc3
     cases hc3
     exact go c hc (by rw[G5 hc,decide_eq_true b3];simp)
    ·rw[hc]at hc3 hc2
     cases hc3
     cases hc2
     have e:=stop (by rw[LB hj,G5 hc,b1,b2,decide_eq_false b3];rfl)
     exact⟨j0,j1,by omega,by omega,fun v=>⟨_,⟨by rw[e],rfl⟩, .inl ⟨rfl,by rw[e]⟩⟩⟩
    ·rw[hc]at hc2
     cases hc2
     exact go c hc (by rw[G5 hc,b2];simp)
    ·exact go c hc (by rw[G5 hc,b1];simp)
    ·have e:=stop (Zv hj)
     exact⟨j0,j1,by omega,by omega,fun v=>⟨_,⟨by rw[e],rfl⟩, .inl ⟨rfl,by rw[e]⟩⟩⟩
   rename_i hL
   have hbeg:AN (c.toNat:Int)=false:=by rw[<-PY];simpa using hL
   split at ht
   ·cases ht
   ·rename_i hD
    have hdg:qgZ (c.toNat:Int)=false:=by unfold qgZ;rw[decide_eq_false];omega
    split at ht
    ·rename_i hQ
     obtain⟨⟨q,w⟩,hq,ht⟩:=qt6.1 ht
     cases ht
     have hQ':(c.toNat:Int)=34:=by omega
     rw[hQ']at hbeg hdg
     simp[h1,h2,hc,hbeg,hdg,hQ']
     refine⟨by omega,by simp only[InR];omega,?_⟩
     refine av (X:=Nat×B) [0,3,4] [200] (fun z=>SM s z.1 z.2=some (q,w)/\z.1<=s.size/\i' < z.1/\z.2.size<=z.1) (fun z=>[(5,enc (z.1:Int)),(6,enc z.2),(7,enc false)]) (fun _=>[]) (fun z=>s.size -z.1) (i'+1,⟨#[]⟩) ⟨hq,by omega,by omega,qul _⟩ (by simp) (by simp) ?_
     rintro⟨j,u⟩ ⟨j0,j1,j2,j3⟩
     simp only at j0 j1 j2 j3
     simp
     clear h1 h2 h3
     refine fun _=>⟨fun hjs=>⟨hjs,fun d hd=>?_⟩,fun hjs=>?_⟩
     ·rw[Wm hd]at j0
      refine⟨fun h34=>⟨by simp only[InR];omega,fun _=>⟨fun hj1=>⟨by simp only[InR];omega,by omega,hj1,fun d' hd'=>⟨fun h34'=>?_,fun h34'=>?_⟩⟩,fun hj1=>?_⟩⟩,fun h34=>?_⟩
      ·rw[if_pos (by omega),hd']at j0
       simp only at j0
       rw[if_pos (by omega)]at j0
       cases j0
      ·rw[if_pos (by omega),hd']at j0
       simp only at j0
       rw[if_neg (by omega)]at j0
       cases j0
       exact⟨by simp only[InR];omega,by omega,by omega,fun v'=>⟨v',⟨rfl,rfl⟩, .inl ⟨rfl,rfl⟩⟩⟩
      ·have hnone:s.data[j+1]? =none:=qvk (by show s.size<=j+1;omega)
       rw[if_pos (by omega),hnone]at j0
       cases j0
       exact⟨by simp only[InR];omega,by omega,by omega,fun v'=>⟨v',⟨rfl,rfl⟩, .inl ⟨rfl,rfl⟩⟩⟩
      ·rw[if_neg (by omega)]at j0
       refine⟨by simp only[InR];omega,by omega,by omega,by omega,by simp only[InR];omega,j+1,_,⟨j0,by omega,by omega,?_⟩,⟨by omega,rfl⟩,by omega⟩
       rw[ByteArray.size_append,qwh]
       omega
     ·rw[Y4 hjs]at j0
      cases j0
    ·rename_i hQ
     have hQ':¬ (c.toNat:Int)=34:=by omega
     split at ht
     ·cases ht
     ·rename_i x hx
      cases ht
      simp[h1,h2,h3,hc,hbeg,hdg,hQ']
      refine⟨by omega,fun _=>?_⟩
      refine aj (X:=Unit) [0,3,4,5,38] [200] signsL.length (fun k _=>(signsL.drop k).find? (qf3 s i')=some x) (fun _=>[]) (fun _=>[]) () (by simp) (by simp) (by decide) (by simp) (by simp) (by simpa using hx) (by simp) (by simp) ?_ ?_
      ·rintro m -hm hP
       obtain⟨y,hy⟩:=da hm
       obtain⟨_,hgy⟩:=qtV.1 hy
       rw[nF hy,List.find?_cons]at hP
       have hpre:qf3 s i' y=decide (i'+y.size<=s.size/\s.extract i' (i'+y.size)=y):=rfl
       have e1:((i':Int) + (y.size:Int)).toNat=i'+y.size:=by omega
       simp[hm,hy,hgy,e1]
       clear h1 h2 h3
       refine fun _=>⟨by simp only[InR];omega,fun _=>⟨fun hle _=>⟨by simp only[InR];omega,by omega,by omega,fun hex _=>⟨by simp only[InR];omega,fun hz=>?_,fun _=>?_⟩,fun hex=>?_⟩,fun hlt=>?_⟩⟩
       ·rw[hpre,decide_eq_true ⟨by omega,hex⟩]at hP
        cases hP
        omega
       ·rw[hpre,decide_eq_true ⟨by omega,hex⟩]at hP
        cases hP
        exact⟨by omega,by omega,by omega,by omega,fun v'=>⟨v',⟨rfl,rfl⟩, .inl ⟨rfl,rfl⟩⟩⟩
       ·rw[hpre,decide_eq_false (fun h=>hex h.2)]at hP
        exact hP
       ·rw[hpre,decide_eq_false (fun h=>by have:=h.1;omega)]at hP
        exact hP
      ·rintro -hP
       rw[quU]at hP
       cases hP
  ·rintro v' -
   simp
   exact⟨k,j,v',out++ [t],⟨hk,hj.1,by simp;omega⟩,⟨⟨rfl,rfl⟩, .inl ⟨rfl,by simp⟩⟩,by omega⟩
 ·cases hk
end Go.Gv

namespace Go.Gv
open Cod (enc dec)
open Go.Proofs
variable {S S0:Nat->Spc}
def Vv:Glob:=⟨0,E0,E0,E0,E0,E0,false,0,0, [], []⟩
@[simp] abbrev Ow(s:Pst)(z:List B×Int):Option (Pst×Int):=if s.e=0/\0<=z.2 then(wV s).bind fun t=>if t.kind≠110 then some (s, -1)else none else none
abbrev Sd:Spc:=SO (a2 (List B) Int) (enc (X:=Int)) Ow
theorem qff(h1:S de=Su):ol lR lC S (a2 (List B) Int) (enc (X:=Int)) (fun s z=>∃r,Ow s z=some r) (fun s z s' y=>Ow s z=some (s',y)):=by
 rintro b s ⟨l,i⟩ ⟨r,hr⟩
 have hr0:=hr
 simp only[Ow]at hr
 split at hr
 ·rename_i he
  obtain⟨he,hi0⟩:=he
  have hi0:0<=i:=hi0
  obtain⟨t,ht,hr⟩:=qtT.1 hr
  split at hr
  ·rename_i hk
   cases hr
   simp[lR,lC]
   refine av (X:=Int) [0,1] [0] (fun j=>0<=j) (fun j=>[(7,enc j)]) (fun _=>[]) (fun j=>(l.length -j).toNat) i hi0 (by simp) (by simp) ?_
   intro j hj
   have hj:0<=j:=hj
   have hno:∀x:B,UH s 110 x=some false:=fun x=>by rw[G4 he ht,decide_eq_false];exact fun h=>hk h.1
   simp[h1,hno]
   exact fun _=>⟨fun hl=>⟨hj,hl,fun a _=>⟨by simp only[InR];omega,j+1,by omega,rfl,by omega⟩⟩,fun _=>qqo s (by simp) ⟨⟨he,hi0⟩,by rw[ht];simp[hk]⟩⟩
  ·cases hr
 ·cases hr
abbrev MQ:Spc:=bj a0 (fun _=>True) (enc (X:=List B)) fun _ _=>True
theorem VO:ar tf sB S a0 (fun _=>True) (enc (X:=List B)) fun _ _=>True:=by
 rintro x -
 simp[tf,sB]
 exact cX (Y:=List B) [⟨#[]⟩,⟨#[119,105,116,104,105,110]⟩,⟨#[99,111,110,116,97,105,110,105,110,103]⟩,⟨#[111,118,101,114,108,97,112,112,105,110,103]⟩] (.same _) trivial
def Vp(s:B)(y:Qry×Int×Int):Prop:=∃p,ED s=some p/\y=(⟨p,Vv, [],0⟩,0,0)
abbrev M9:Spc:=bj (a1 B) (fun s=>∃p,ED s=some p) (qeR (Y:=Qry) (Z:=Int) (W:=Int)) Vp
theorem qdE{H:ab}{l l':List D}(h:FzL H l l'):FrzTo H (.agg l) (.agg l'):= .agg h.get.1 h.get.2
theorem qcj(h1:S xi=Sj)(h2:S jW=YS)(h3:S bq=yU)(h4:S pN=MQ)(h5:S iT=Sd)(h6:S de=Su)(h7:S aK=vH):
 ar xt wz S (a1 B) (fun s=>∃p,ED s=some p) (qeR (Y:=Qry) (Z:=Int) (W:=Int)) Vp:=by
 rintro s ⟨p,hp⟩
 have hp0:=hp
 unfold ED at hp
 split at hp
 ·rename_i hsz
  obtain⟨l,hl,hp⟩:=qtT.1 hp
  obtain⟨⟨s1,p1⟩,ha,hp⟩:=qtT.1 hp
  simp only at hp
  split at hp
  ·cases hp
  rename_i he
  have he:s1.e=0:=by simpa using he
  obtain⟨t,ht,hp⟩:=qtT.1 hp
  split at hp
  ·rename_i hk
   cases hp
   have hex:∃y,FJ s=some y:=⟨l,hl⟩
   have n1:qQ s1 ⟨#[58,58]⟩=some (s1,false):=xo he ht (by omega)
   have n2:qQ s1 ⟨#[33]⟩=some (s1,false):=xo he ht (by omega)
   have n3:UH s1 110 ⟨#[115,116,114,97,116,101,103,121]⟩=some false:=by rw[G4 he ht,decide_eq_false];omega
   have hsz':¬ (400:Int) < s.size:=by omega
   simp[xt,wz,h1,hsz',hex, -Bool.forall_bool]
   intro b2 _ l' hl' b16
   rw[hl]at hl'
   cases hl'
   simp[h2,ha,h3,n1]
   intro b6
   refine bD (X:=Unit) [2,5,6] [2,6,16] (fun _=>True) (fun _=>[]) (fun _=>[]) ?_ ?_
   ·simp
    refine av (X:=Unit) [2,5,6] [2,6,16] (fun _=>True) (fun _=>[]) (fun _=>[]) (fun _=>0) () trivial (by simp) (by simp) ?_
    rintro - -
    simp[h3,h4,h5,he,DK he,n2,ht,hk]
   rintro - -
   refine bD (X:=Unit) [2,5,6] [2,6,16] (fun _=>True) (fun _=>[]) (fun _=>[]) ?_ ?_
   ·simp[h6,n3]
   rintro - -
   refine bD (X:=Unit) [2,5,6] [2,6,16] (fun _=>True) (fun _=>[]) (fun _=>[]) ?_ ?_
   ·simp[h7,he,DK he,ht,hk]
   rintro - -
   simp[he]
   refine⟨⟨p,Vv, [],0⟩,qdE ?_,p,hp0,rfl⟩
   simp[Vv,E0]
  ·cases hp
 ·cases hp
end Go.Gv

namespace Go.Gv
open Go.Proofs
def qgy:List B:=[⟨#[97]⟩,⟨#[98]⟩]
def knX:mh:=⟨⟨#[116]⟩,0,4, []⟩
def knR:Rn:=uO plC qgy knX
def qh8:Pat:=⟨1,⟨2,E0,E0,⟨#[97]⟩,E0,false, []⟩,⟨#[97]⟩,E0,0,0, []⟩
def qh7:Pat:=⟨1,⟨2,E0,E0,⟨#[98]⟩,E0,false, []⟩,⟨#[98]⟩,E0,0,0, []⟩
def qgx:Pat:=⟨1,⟨1,E0,E0,E0,E0,false, []⟩,E0,E0,0,0, []⟩
def qgw:Pat:=⟨6,lj,E0,E0,0, -1, [qgx]⟩
theorem Dw:bZ Dx []=qgy:=by kernel_rfl
theorem Xc:bF Dx=[qh8,qgx,qh7]:=by kernel_rfl
theorem UD:(decide (ms Dx<=256) && decide (tJ Dx<=1000))=true:=by kernel_rfl
theorem qjR:([qh8,qgx,qh7].all fun x=>qgd plC.attrs qgy x.cond)=true:=by kernel_rfl
theorem qde(vs:List Int)(q:Pat)(hq:q=qh8\/q=qh7\/q=qgx):((List.range 4).all fun i=>(xc ⟨plC,(i:Int),qgy,vs⟩ 21 q.cond).isSome)=true:=by
 rcases hq with rfl|rfl|rfl <;> kernel_rfl
theorem qgv:((List.range 4).map fun(i:Nat)=>QD knR Dx (Gj (i:Int)))=[[⟨2,1,2,0⟩,⟨4,1,4,0⟩], [], [⟨4,3,4,0⟩], []]:=by kernel_rfl
theorem ZR{b:B}(h:b=⟨#[97]⟩\/b=⟨#[98]⟩):bP b=true:=by
 rw[wm]
 rcases h with rfl|rfl
 all_goals
  refine⟨by decide,by decide,fun c hc=>by cases hc;rfl,fun k c hc=>?_⟩
  rcases k with _|k
  ·cases hc;rfl
  ·simp at hc
theorem Jf{C:Pat->Prop}(h0:C Dx)(h1:C qgw)(h2:C qh8)(h3:C qh7)(h4:C qgx):kA C Dx:=by
 intro q hq
 have:q∈ [Dx,qh8,qgw,qgx,qh7]:=hq
 simp only[qt1,qus,or_false]at this
 rcases this with rfl|rfl|rfl|rfl|rfl
 ·exact h0
 ·exact h2
 ·exact h1
 ·exact h4
 ·exact h3
theorem G3:kA (fun q=>tE q/\uT q=true/\vS bP q=true) Dx:=by
 have v0:∀q:Pat,q.op≠2->q.op≠3->(q.lab≠ ⟨#[]⟩->bP q.lab=true)->vS bP q=true:=fun q h2 h3 h=>by
  unfold vS
  rw[decide_eq_true_eq]
  exact⟨fun h'=>by omega,h⟩
 refine Jf ⟨.inr (.inr (.inl ⟨.inl rfl,rfl,rfl,rfl,rfl,rfl,by decide⟩)),rfl,v0 _ (by decide) (by decide) fun h=>absurd rfl h⟩
  ⟨.inr (.inr (.inr ⟨rfl,rfl,rfl,rfl,rfl⟩)),rfl,v0 _ (by decide) (by decide) fun h=>absurd rfl h⟩
  ⟨.inl ⟨rfl,rfl,rfl,rfl,rfl⟩,rfl,v0 _ (by decide) (by decide) fun _=>ZR (.inl rfl)⟩ ⟨.inl ⟨rfl,rfl,rfl,rfl,rfl⟩,rfl,v0 _ (by decide) (by decide) fun _=>ZR (.inr rfl)⟩
  ⟨.inl ⟨rfl,rfl,rfl,rfl,rfl⟩,rfl,v0 _ (by decide) (by decide) fun h=>absurd rfl h⟩
theorem Bl{f:Pat->Bool}(p:Pat)(h:kA (fun q=>f q=true) p):eT f p=true:=by
 induction p using pH with|_ p ih=>?_
 rw[ez,jP h,qvL,qt0]
 exact fun k hk=>ih k hk (ql h hk)
theorem ZS:lO bP Dx=true:=by
 unfold lO
 rw[Bl Dx (oY G3 fun q h=>(vQ q).2 h.1),Bl Dx (oY G3 fun q h=>h.2.2),Bl Dx (oY G3 fun q h=>h.2.1)]
 rfl
theorem qgt:qiz plC.attrs ⟨Dx,ou, [],0⟩:=by
 have hn:=UD
 simp only[qt2,decide_eq_true_eq]at hn
 refine⟨rfl,rfl,rfl,ZS,hn.1,by rw[Dw];decide,by show tJ Dx<=1000000;omega,by decide,fun x hx=>?_⟩
 have hx:x∈bF Dx:=hx
 rw[Xc]at hx
 have h:=qt0.1 qjR x hx
 rw[show bZ (Qry.mk Dx ou [] 0).pat []=qgy from Dw]
 refine⟨h,1,?_⟩
 simp only[qt1,qus,or_false]at hx
 rcases hx with rfl|rfl|rfl <;> exact⟨by decide,fun k hk=>by cases hk⟩
theorem Tc{q:Pat}(hq:q=qh8\/q=qh7\/q=qgx)(s:St3)(h:OC knR.en s)(h2:s.p < knR.en):∃y,AA knR q s=some y:=by
 have h2:s.p < 4:=h2
 have h0:=h.1
 obtain⟨i,hi,e⟩:∃i:Nat,i < 4/\(i:Int)=s.p:=⟨s.p.toNat,by omega,by omega⟩
 have:=qt0.1 (qde (Oh knR s) q hq) i (qvt.2 hi)
 unfold AA
 rw[<-e]
 exact quY.1 this
theorem qgu:Vw plC Dx:=by
 have hn:=UD
 simp only[qt2,decide_eq_true_eq]at hn
 refine⟨⟨by decide,by decide,by decide⟩,by decide,ZS,by rw[Dw];decide,by omega,fun t ht=>?_⟩
 have e:t=knX:=by simpa [plC,knX]using ht
 subst e
 rw[Dw]
 have hop:∀q:Pat,q.op≠1->tE q->uT q=true->(q.lab≠ri->sU qgy q.lab=true)->qem knR q:=fun q h1 h2 h3 h4=>⟨h2,h3,h4,fun h=>absurd h h1⟩
 have g:=G3
 refine Jf (hop _ (by decide) (g Dx (by simp[FQ])).1 rfl fun h=>absurd rfl h) (hop _ (by decide) (g qgw (.tail _ (.tail _ (.head _)))).1 rfl fun h=>absurd rfl h) ⟨.inl ⟨rfl,rfl,rfl,rfl,rfl⟩,rfl,fun _=>rfl,fun _=>Tc (.inl rfl)⟩ ⟨.inl ⟨rfl,rfl,rfl,rfl,rfl⟩,rfl,fun _=>rfl,fun _=>Tc (.inr (.inl rfl))⟩ ⟨.inl ⟨rfl,rfl,rfl,rfl,rfl⟩,rfl,fun h=>absurd rfl h,fun _=>Tc (.inr (.inr rfl))⟩
theorem qjS:qhz plC ⟨Dx,ou, [],0⟩:=⟨qgt,qgu⟩
def knM:List Match:=[⟨0,2, [0,1]⟩,⟨0,4, [0,3]⟩,⟨2,4, [2,3]⟩]
theorem NJ{i:Int}(h0:0<=i)(h1:i < 4):Gh plC i=some knX:=by
 unfold Gh
 show List.find? _ [knX]=_
 rw[List.find?_cons,show(decide (knX.b<=i) && decide (i < knX.e))=true by rw[qt2,decide_eq_true_iff,decide_eq_true_iff];exact⟨h0,h1⟩]
theorem qjT:Ot plC qgy Dx knM:=by
 refine⟨.cons (fun x hx=>?_) (.cons (fun x hx=>?_) (.cons (fun x hx=>by cases hx) .nil)),fun m=>?_⟩
 ·simp only[qt1,qus,or_false]at hx
  rcases hx with rfl|rfl <;> (unfold OB;decide)
 ·simp only[qt1,qus,or_false]at hx
  subst hx
  (unfold OB;decide)
 have hd:∀i:Nat,i < 4->∀s,kX knR Dx (Gj (i:Int)) s↔s∈QD knR Dx (Gj (i:Int)):=fun i hi s=>by
  refine(Al knR (by decide) Dx ?_ (Gj (i:Int)) ⟨by simp[Gj],?_,fun j=>?_⟩ s).symm
  ·exact Jf (.inr (.inr (.inr (.inl rfl)))) (.inr (.inr (.inr (.inr (.inr (by decide)))))) (.inl rfl) (.inl rfl) (.inl rfl)
  ·show(i:Int)<=4;omega
  ·rcases j with _|_|j <;> exact⟨qvA 0,(by decide:(0:Int)<=4)⟩
 have hk:=qgv
 simp only[List.range,List.range.loop,qun,qu8,quk,and_true]at hk
 obtain⟨e0,e1,e2,e3⟩:=hk
 constructor
 ·intro hm
  simp only[knM,qt1,qus,or_false]at hm
  rcases hm with rfl|rfl|rfl
  ·exact⟨by decide,by decide,knX,NJ (by decide) (by decide),⟨2,1,2,0⟩,(hd 0 (by decide) _).2 (by rw[e0];simp),by decide,rfl,rfl⟩
  ·exact⟨by decide,by decide,knX,NJ (by decide) (by decide),⟨4,1,4,0⟩,(hd 0 (by decide) _).2 (by rw[e0];simp),by decide,rfl,rfl⟩
  ·exact⟨by decide,by decide,knX,NJ (by decide) (by decide),⟨4,3,4,0⟩,(hd 2 (by decide) _).2 (by rw[e2];simp),by decide,rfl,rfl⟩
 ·rintro⟨h0,h1,t,ht,s,hs,h3,h4,h5⟩
  obtain⟨b,e,l⟩:=m
  simp only at h0 h1 ht hs h3 h4 h5
  have h1:b < 4:=h1
  rw[NJ h0 h1]at ht
  cases ht
  obtain⟨i,hi,rfl⟩:∃i:Nat,i < 4/\(i:Int)=b:=⟨b.toNat,by omega,by omega⟩
  have hs:=(hd i hi s).1 hs
  subst h4 h5
  rcases i with _|_|_|_|i
  ·rw[e0]at hs
   simp only[qt1,qus,or_false]at hs
   rcases hs with rfl|rfl
   ·exact .head _
   ·exact .tail _ (.head _)
  ·rw[e1]at hs;cases hs
  ·rw[e2]at hs
   simp only[qt1,qus,or_false]at hs
   subst hs
   exact .tail _ (.tail _ (.head _))
  ·rw[e3]at hs;cases hs
  ·omega
end Go.Gv

namespace Go.Gv
open Go.Proofs
open Cod (enc dec)
variable {S S0:Nat->Spc}
abbrev Eu:Spc:=bj a0 (fun _=>True) enc (fun(_:Unit) (y:Bool)=>y=true)
theorem VK(h1:S ue=M9)(h2:S pV=MV)(h3:S eY=Pp)(h4:S xh=MU):ar tv sO S a0 (fun _=>True) enc (fun(_:Unit) (y:Bool)=>y=true):=by
 rintro x -
 have hex:∃p,ED ⟨#[97,58,34,97,34,32,91,93,42,32,98,58,34,98,34]⟩=some p:=⟨_,LH⟩
 simp[tv,sO,h1,hex, -Bool.forall_bool, -Bool.exists_bool]
 rintro q a b ⟨p,hp,e⟩ b1
 cases e
 have e:p=Dx:=qua (hp.symm.trans LH)
 subst e
 have hM:qhz plC ⟨Dx,Vv, [],0⟩:=qjS
 have hpl:(⟨#[97,98,97,98]⟩:B)=abT:=rfl
 simp[h2,h3,h4,hpl, -Bool.forall_bool, -Bool.exists_bool]
 have hi:Ot plC (bZ Dx []) Dx knM:=by rw[Dw];exact qjT
 refine⟨hM,fun l e hq=>?_⟩
 rcases hq with⟨h1,h2,h3⟩|⟨_,_,k,l',h3,h4⟩
 ·have e1:l=knM:=qdl h2 hi
  subst e1
  refine⟨fun _=>⟨⟨fun m hm=>?_,?_,?_,?_⟩,fun y hy=>hy.2 rfl⟩,h1⟩
  ·simp only[knM,qt1,qus,or_false]at hm
   rcases hm with rfl|rfl|rfl <;> (unfold DE;decide)
  ·unfold DE;decide
  ·unfold DE;decide
  ·unfold DE;decide
 ·have h5:=qfE h3 hi
  have:knM.length=3:=rfl
  omega
end Go.Gv

namespace Go.Gv
open Go.Proofs
open Cod (enc dec)
variable {S S0:Nat->Spc}
end Go.Gv
