/- A part of the framework and of the walks: W86 W87 W88 W89. -/
import Derived.Test.YtaiffcbkmgfklaaGreatDoorGt33
import Derived.Test.YtaiffcbkmgfklaaGreatDoorGt35
set_option linter.unusedSimpArgs false
set_option linter.unusedVariables false
set_option maxRecDepth 100000

namespace Go.Gv
open Cod (enc dec)
variable {S S0:Nat→Spc} {f:Int×Int}
@[simp] abbrev M7 (N:Rdr→Out (Rdr×Cond)) (s:Rdr) (_:Unit):Out (Rdr×Cond):=N s
abbrev wG (f:Int×Int) (N:Rdr→Out (Rdr×Cond)):Spc:=xU a0 (enc (X:=Cond)) f (M7 N)
@[simp] abbrev Ty (N:Rdr→Out (Rdr×Cond)) (s:Rdr) (_:Unit):Out (Rdr×Cond):=andE N s
abbrev L8 (f:Int×Int) (N:Rdr→Out (Rdr×Cond)):Spc:=xU a0 (enc (X:=Cond)) f (Ty N)
@[simp] abbrev VZ (N:Rdr→Out (Rdr×Cond)) (s:Rdr) (_:Unit):Out (Rdr×Cond):=orE N s
abbrev Nt (f:Int×Int) (N:Rdr→Out (Rdr×Cond)):Spc:=xU a0 (enc (X:=Cond)) f (VZ N)
theorem TY (N:Rdr→Out (Rdr×Cond)) (h1:S ac=bF) (h2:S bA=wG f N) (h3:S eT=xO):
 eP jH jx S a0 (enc (X:=Cond)) f (Ty N):=by
 rintro b s ⟨⟩ hf
 have hf: (andE N s).fine f:=hf
 have e:=andE.eq_1 N s
 simp[jH,jx,h2]
 intro b2
 refine jN hf e fun r e=> ?_
 intro v0
 refine gB (X:=Nat×Rdr×Value×List Cond) [0,2] [2] (fun z=> andE N s=((jc N z.1 z.2.1 z.2.2.2).map fun q=> (q.1,SO 7 q.2))∧z.2.2.2.length+z.1≤501) (fun z=> [(3, .own 6 z.2.2.1)]) (fun z=> [(0, .box b (cI z.2.1)),(6, .row z.2.2.1 aN 7 (z.2.2.2.map enc))]) (fun z=> z.1) (500,r.1,v0, [r.2]) ⟨e,by simp⟩ (by simp) (by simp) ?_
 clear e
 rintro⟨k,s1,v,l⟩ ⟨e,hlen⟩
 simp only at e hlen
 obtain _ | k:=k
 ·rw[e,jc] at hf;exact hf.elim
 rw[jc,Out.bind_map] at e
 simp[h1]
 refine mw hf e fun w e=> ?_
 simp[-Bool.forall_bool, -Bool.exists_bool,h2,h3]
 refine⟨fun hw=> ?_,fun hw=> ?_⟩
 ·rw[if_pos hw,Out.bind_map] at e
  exact jN hf e fun r2 e=> ⟨by omega,by omega,fun v'=> ⟨k,r2.1,v',l++ [r2.2],⟨e,by simp;omega⟩,⟨rfl, .inl ⟨rfl,rfl,rfl,rfl,rfl⟩, .inl ⟨rfl,by simp⟩⟩,by omega⟩⟩
 ·rw[if_neg (by simp[hw]),Out.map_ok] at e
  exact gg w.1 (SO 7 l) (by simp) (by simp) e
theorem Wf (N:Rdr→Out (Rdr×Cond)) (h1:S ac=bF) (h2:S dV=L8 f N) (h3:S eT=xO):
 eP kj j4 S a0 (enc (X:=Cond)) f (VZ N):=by
 rintro b s ⟨⟩ hf
 have hf: (orE N s).fine f:=hf
 have e:=orE.eq_1 N s
 simp[kj,j4,h2]
 intro b2
 refine jN hf e fun r e=> ?_
 intro v0
 refine gB (X:=Nat×Rdr×Value×List Cond) [0,2] [2] (fun z=> orE N s=((la N z.1 z.2.1 z.2.2.2).map fun q=> (q.1,SO 8 q.2))∧z.2.2.2.length+z.1≤501) (fun z=> [(3, .own 6 z.2.2.1)]) (fun z=> [(0, .box b (cI z.2.1)),(6, .row z.2.2.1 aN 7 (z.2.2.2.map enc))]) (fun z=> z.1) (500,r.1,v0, [r.2]) ⟨e,by simp⟩ (by simp) (by simp) ?_
 clear e
 rintro⟨k,s1,v,l⟩ ⟨e,hlen⟩
 simp only at e hlen
 obtain _ | k:=k
 ·rw[e,la] at hf;exact hf.elim
 rw[la,Out.bind_map] at e
 simp[h1]
 refine mw hf e fun w e=> ?_
 simp[-Bool.forall_bool, -Bool.exists_bool,h2,h3]
 refine⟨fun hw=> ?_,fun hw=> ?_⟩
 ·rw[if_pos hw,Out.bind_map] at e
  exact jN hf e fun r2 e=> ⟨by omega,by omega,fun v'=> ⟨k,r2.1,v',l++ [r2.2],⟨e,by simp;omega⟩,⟨rfl, .inl ⟨rfl,rfl,rfl,rfl,rfl⟩, .inl ⟨rfl,by simp⟩⟩,by omega⟩⟩
 ·rw[if_neg (by simp[hw]),Out.map_ok] at e
  exact gg w.1 (SO 8 l) (by simp) (by simp) e
@[simp] abbrev Oj (s:Rdr) (_:Unit):Out (Rdr×Cond):=atomsE s
abbrev H4 (f:Int×Int):Spc:=xU a0 (enc (X:=Cond)) f Oj
theorem Qr (h1:S ac=bF) (h2:S aq=kS f) (h3:S ag=eH f) (h4:S az=jf f) (h5:S a9=rh) (h6:S aU=nn) (h7:S bg=ri):
 eP iY iv S a0 (enc (X:=Cond)) f Oj:=by
 rintro b s ⟨⟩ hf
 have hf: (atomsE s).fine f:=hf
 have e:=atomsE.eq_1 s
 simp only[rC,A0,nG,cf,ej,Out.bind_map,Out.map_map,Out.bind_bind,Out.map_bind] at e
 simp[iY,iv,h1,h2,h3,h4,h5,h6,h7, -Bool.forall_bool, -Bool.exists_bool]
 repeat' first
  | refine jN hf e fun q e=> ?_
  | refine Dv hf e fun q e=> ?_
  | refine mw hf e fun q e=> ?_
  | refine Dw hf e fun q e=> ?_
  | refine zI hf e fun q e=> ?_
  | (refine⟨fun hc=> ?_,fun hc=> ?_⟩ <;> first | rw[if_pos hc] at e | rw[if_neg hc] at e | rw[if_neg (by simp[hc])] at e)
  | exact G2 _ [] (.nil _) (by simp) e
  | exact G2 _ [⟨2,_,E0,_,E0,_, []⟩] (NN _ (Ev [] (.nil _))) (by simp) e
  | exact G2 _ [_] (by simp) (by simp) e
  | exact gg _ _ (by simp) (by simp) e
  | intro _
theorem TV (N:Rdr→Out (Rdr×Cond)) (h1:S ac=bF) (h2:S bA=wG f N) (h3:S ag=eH f) (h4:S cK=Nt f N) (h5:S eF=H4 f):
 eP jE ju S a0 (enc (X:=Cond)) f (M7 (notE N (orE N))):=by
 rintro b s ⟨⟩ hf
 have hf: (notE N (orE N) s).fine f:=hf
 have e:=notE.eq_1 N (orE N) s
 simp only[ cf,ej,Out.bind_map,Out.map_map,Out.bind_bind,Out.map_bind] at e
 simp[jE,ju,h1,h2,h3,h4,h5, -Bool.forall_bool, -Bool.exists_bool]
 repeat' first
  | refine jN hf e fun q e=> ?_
  | refine Dv hf e fun q e=> ?_
  | refine mw hf e fun q e=> ?_
  | refine Dw hf e fun q e=> ?_
  | refine zI hf e fun q e=> ?_
  | (refine⟨fun hc=> ?_,fun hc=> ?_⟩ <;> first | rw[if_pos hc] at e | rw[if_neg hc] at e | rw[if_neg (by simp[hc])] at e)
  | exact G2 _ [] (.nil _) (by simp) e
  | exact G2 _ [⟨2,_,E0,_,E0,_, []⟩] (NN _ (Ev [] (.nil _))) (by simp) e
  | exact G2 _ [_] (by simp) (by simp) e
  | exact gg _ _ (by simp) (by simp) e
  | intro _
end Go.Gv

namespace Go.Gv
open Cod (enc dec)
variable {S S0:Nat→Spc} {f:Int×Int}
@[simp] abbrev Hi (s:Rdr) (z:Int×Int):Out (Rdr×Int):=numberE s z.1 z.2
abbrev qx (f:Int×Int):Spc:=xU (a2 Int Int) (enc (X:=Int)) f Hi
theorem KF {b:Nat} {post:Rdr→Int→Prop} {v:Int} {H:aa} (s:Rdr) (h0:H 0=some (.box b (cI s))) (hq:post s v):yQ enc b post (.v (.int .i64 v)) H:=gg s v (.same _) h0 hq
theorem NT {t:B} (h:qQ t=true) {k:Nat} {c:UInt8} (hc:t.data[k]?=some c):48≤c.toNat∧c.toNat≤57:=by
 have:=List.all_eq_true.1 h c (by rw[←Array.getElem?_toList] at hc;exact List.mem_of_getElem? hc)
 simpa using this
theorem JC {t:B} {k:Nat} {c:UInt8} (hc: (kp t).data[k]?=some c): ∃j:Nat,t.data[j]?=some c:=by
 rw[kp,ByteArray.data_extract,Array.getElem?_extract] at hc
 split at hc
 ·exact⟨_,hc⟩
 ·cases hc
theorem LJ (h1:S az=jf f) (h2:S fe=s_trimLeft) (hp:S dc=zn f):eP gA gp S (a2 Int Int) (enc (X:=Int)) f Hi:=by
 rintro b s ⟨most,a⟩ hf
 have hf: (numberE s most a).fine f:=hf
 have e:=numberE.eq_1 s most a
 simp[gA,gp,h1,h2]
 refine jN hf e fun r e=> ?_
 have hdm:qQ r.2=true∧most≤1000000:=by
  by_cases h:qQ r.2=true∧most≤1000000
  ·exact h
  ·rw[if_neg h] at e
   rw[e] at hf
   exact hf.elim
 rw[if_pos hdm] at e
 obtain⟨hd,hm⟩:=hdm
 refine gB (X:=Nat×Int) [1,2,7] [0] (fun z=> z.1≤(kp r.2).size∧0≤z.2∧z.2≤100000000∧yg most ((kp r.2).data.toList.drop z.1) z.2=Pa most r.2) (fun z=> [(8,enc z.2),(9,enc (z.1:Int))]) (fun _=> []) (fun z=> (kp r.2).size -z.1) (0,0) ⟨by simp,by simp,by simp,rfl⟩ (by simp) (by simp) ?_
 rintro⟨k,n⟩ ⟨hk,h0,hb,hn⟩
 simp only at hk h0 hb hn
 simp[hp]
 have fin:yg most ((kp r.2).data.toList.drop k) n=n→(most < n→(a,8)=f)∧(n≤most→numberE s most a= .ok (r.1,n)):=by
  intro hx
  rw[hx] at hn
  rw[←hn] at e
  refine⟨fun h=> ?_,fun h=> ?_⟩
  ·rw[if_pos h] at e
   rw[e] at hf
   exact hf
  ·rw[if_neg (by omega)] at e
   exact e
 refine fun _=> ⟨fun hlt=> ⟨fun hle=> ?_,fun hgt=> ?_⟩,fun hge=> ?_⟩
 ·have iwr: ∀x:Int,0≤x→x≤9→IntKind.i64.wrap x=x:=fun x _ _=> InR.wrap (k:= .i64) (by simp only[InR];omega)
  refine⟨by simp only[InR];omega,hlt,fun c hc=> ?_⟩
  obtain⟨j,hj⟩:=JC hc
  have hcd:=NT hd hj
  rw[iwr _ (by omega) (by omega)]
  refine⟨by simp only[InR];omega,by simp only[InR];omega,by simp only[InR];omega,k+1,10*n+ ((c.toNat:Int) -48),⟨by omega,by omega,by omega,?_⟩,⟨rfl,by omega⟩,by omega⟩
  rw[←hn]
  have hd2: (kp r.2).data.toList.drop k=c:: (kp r.2).data.toList.drop (k+1):=dC (by rw[Array.getElem?_toList];exact hc)
  rw[hd2,yg,if_pos hle]
 ·have hx:=fin (by
   have hc: ∃c,(kp r.2).data[k]?=some c:=⟨_,Array.getElem?_eq_getElem hlt⟩
   obtain⟨c,hc⟩:=hc
   have hd2: (kp r.2).data.toList.drop k=c:: (kp r.2).data.toList.drop (k+1):=dC (by rw[Array.getElem?_toList];exact hc)
   rw[hd2,yg,if_neg (by omega)])
  exact⟨hx.1,fun h=> KF r.1 (by simp) (hx.2 h)⟩
 ·have hx:=fin (by
   rw[List.drop_eq_nil_of_le (by simpa using hge),yg])
  exact⟨hx.1,fun h=> KF r.1 (by simp) (hx.2 h)⟩
@[simp] abbrev Tx (s:Rdr) (_:Unit):Out (Rdr×Int):=bigE s
abbrev C1 (f:Int×Int):Spc:=xU a0 (enc (X:=Int)) f Tx
theorem TX (h1:S bC=qx f):eP jG jw S a0 (enc (X:=Int)) f Tx:=by
 rintro b s ⟨⟩ hf
 have hf: (bigE s).fine f:=hf
 have e:=bigE.eq_1 s
 simp[jG,jw,h1]
 exact zI hf e fun q e=> KF q.1 (by simp) e
theorem Ny (most:Int): ∀ (l:List UInt8) (n:Int),(∀c∈l,48≤c.toNat)→0≤n→0≤yg most l n
 | [],n,_,h=> h
 | c::l,n,hc,h=> by
   rw[yg]
   split
   ·have:=hc c (by simp)
    exact Ny most l _ (fun x hx=> hc x (by simp[hx])) (by omega)
   ·exact h
theorem UE {most:Int} {t:B} (h:qQ t=true):0≤Pa most t:=by
 refine Ny _ _ _ (fun c hc=> ?_) (Int.le_refl _)
 obtain⟨k,hk⟩:=List.mem_iff_getElem?.1 hc
 obtain⟨j,hj⟩:=JC (by rw[←Array.getElem?_toList];exact hk)
 exact(NT h hj).1
theorem J7 {s:Rdr} {most a:Int} {r:Rdr×Int} (h:numberE s most a= .ok r):0≤r.2∧r.2≤most:=by
 rw[numberE] at h
 cases ht:dg s 3 with
 | no=> rw[ht] at h;cases h
 | err g=> rw[ht] at h;cases h
 | ok x=>
   rw[ht,Out.bind_ok] at h
   split at h
   ·rename_i hd
    split at h
    ·cases h
    ·cases h
     exact⟨UE hd.1,by omega⟩
   ·cases h
@[simp] abbrev Hh (s:Rdr) (_:Unit):Out (Rdr×Int):=signedE s
abbrev zt (f:Int×Int):Spc:=xU a0 (enc (X:=Int)) f Hh
theorem LI (h1:S ac=bF) (h2:S bJ=C1 f):eP gy gm S a0 (enc (X:=Int)) f Hh:=by
 rintro b s ⟨⟩ hf
 have hf: (signedE s).fine f:=hf
 have e:=signedE.eq_1 s
 simp only[cf] at e
 simp[gy,gm,h1,h2, -Bool.forall_bool, -Bool.exists_bool]
 refine mw hf e fun q e=> ⟨fun hc=> ?_,fun hc=> ?_⟩
 ·rw[if_pos hc] at e
  have hr: ∀x,bigE q.1= .ok x→InR .i64 (-x.2):=fun x hx=> by
   have:=J7 hx
   simp only[InR]
   omega
  cases hb:bigE q.1 with
  | no=> rw[e,hb] at hf;exact hf.elim
  | err g=> rw[e,hb] at hf;exact hf
  | ok x=>
    rw[hb] at e
    exact⟨hr x hb,KF x.1 (by simp) e⟩
 ·rw[if_neg (by simp[hc])] at e
  exact zI hf e fun q e=> KF q.1 (by simp) e
end Go.Gv

namespace Go.Gv
open Cod (enc dec)
variable {S S0:Nat→Spc} {f:Int×Int}
@[simp] abbrev Og (A:Rdr→Bool→Out (Rdr×Pat)) (O:Rdr→Out (Rdr×Cond)) (s:Rdr) (_:Unit):Out (Rdr×Pat):=itemE A O s
abbrev HY (f:Int×Int) (A:Rdr→Bool→Out (Rdr×Pat)) (O:Rdr→Out (Rdr×Cond)):Spc:=xU a0 (enc (X:=Pat)) f (Og A O)
@[simp] abbrev Tv (A:Rdr→Bool→Out (Rdr×Pat)) (O:Rdr→Out (Rdr×Cond)) (s:Rdr) (_:Unit):Out (Rdr×Pat):=repE A O s
abbrev L7 (f:Int×Int) (A:Rdr→Bool→Out (Rdr×Pat)) (O:Rdr→Out (Rdr×Cond)):Spc:=xU a0 (enc (X:=Pat)) f (Tv A O)
@[simp] abbrev Tu (A:Rdr→Bool→Out (Rdr×Pat)) (O:Rdr→Out (Rdr×Cond)) (s:Rdr) (i:Bool):Out (Rdr×Pat):=seqE A O s i
abbrev L6 (f:Int×Int) (A:Rdr→Bool→Out (Rdr×Pat)) (O:Rdr→Out (Rdr×Cond)):Spc:=xU (a1 Bool) (enc (X:=Pat)) f (Tu A O)
@[simp] abbrev Tz (A:Rdr→Bool→Out (Rdr×Pat)) (s:Rdr) (i:Bool):Out (Rdr×Pat):=A s i
abbrev C7 (f:Int×Int) (A:Rdr→Bool→Out (Rdr×Pat)):Spc:=xU (a1 Bool) (enc (X:=Pat)) f (Tz A)
@[simp] abbrev Lr (O:Rdr→Out (Rdr×Cond)) (s:Rdr) (l:B):Out (Rdr×Pat):=tokenE O s l
abbrev CX (f:Int×Int) (O:Rdr→Out (Rdr×Cond)):Spc:=xU (a1 B) (enc (X:=Pat)) f (Lr O)
theorem Sk {b:Nat} {post:Rdr→Pat→Prop} {H:aa} {op:Int} {lb rg:B} {d:D} {mn mx:Int} (s:Rdr) (x:Cond) (ks:List Pat) (hd:FrzTo (fun i=> if i=0 then none else H i) d (enc ks))
 (h0:H 0=some (.box b (cI s))) (hq:post s ⟨op,x,lb,rg,mn,mx,ks⟩):
 yQ enc b post (.agg [.v (.int .i64 op), .v (.int .i64 x.op), .v (.string x.name), .v (.string x.arg), .v (.string x.val), .v (.string x.lab), .v (.bool x.fold), .list 7 (x.kids.map enc), .v (.string lb), .v (.string rg), .v (.int .i64 mn), .v (.int .i64 mx),d]) H:=
 by cases x;exact Sl s _ ks (by simp) hd h0 hq
theorem Oz (O:Rdr→Out (Rdr×Cond)) (h1:S ac=bF) (h2:S aL=kP) (h3:S ag=eH f) (h4:S cK=xU a0 (enc (X:=Cond)) f (M7 O)) (h5:S az=jf f) (h6:S bg=ri):
 eP gZ gV S (a1 B) (enc (X:=Pat)) f (Lr O):=by
 rintro b s lab hf
 have hf: (tokenE O s lab).fine f:=hf
 have e:=tokenE.eq_1 O s lab
 simp only[nG,cf,ej,Out.bind_map,Out.map_map,Out.bind_bind,Out.map_bind] at e
 simp[gZ,gV,h1,h2,h3,h4,h5,h6, -Bool.forall_bool, -Bool.exists_bool]
 repeat' first
  | refine jN hf e fun q e=> ?_
  | refine Dv hf e fun q e=> ?_
  | refine mw hf e fun q e=> ?_
  | refine Dw hf e fun q e=> ?_
  | refine zI hf e fun q e=> ?_
  | ((refine⟨fun hc=> ?_,fun hc=> ?_⟩ <;> first | rw[if_pos hc] at e | rw[if_neg hc] at e | rw[if_neg (by simp[hc])] at e) <;> try simp only[Out.bind_ok,Out.bind_err,Out.map_ok,Out.map_err,Out.bind_map,Out.bind_bind,Out.map_bind,Out.map_map] at e)
  | exact Sl _ [] [] (.nil _) (.nil _) (by simp) e
  | exact Sk _ _ [] (.nil _) (by simp) e
  | exact gg _ _ (by simp) (by simp) e
  | intro _
theorem Qo (A:Rdr→Bool→Out (Rdr×Pat)) (O:Rdr→Out (Rdr×Cond)) (h1:S ac=bF) (h2:S aq=kS f) (h3:S ag=eH f) (h4:S dh=CX f O) (h5:S cz=C7 f A):
 eP iU ip S a0 (enc (X:=Pat)) f (Og A O):=by
 rintro b s ⟨⟩ hf
 have hf: (itemE A O s).fine f:=hf
 have e:=itemE.eq_1 A O s
 simp only[pF,cf,ej,Out.bind_map,Out.map_map,Out.bind_bind,Out.map_bind] at e
 simp[iU,ip,h1,h2,h3,h4,h5, -Bool.forall_bool, -Bool.exists_bool]
 repeat' first
  | refine jN hf e fun q e=> ?_
  | refine Dv hf e fun q e=> ?_
  | refine mw hf e fun q e=> ?_
  | refine Dw hf e fun q e=> ?_
  | refine zI hf e fun q e=> ?_
  | ((refine⟨fun hc=> ?_,fun hc=> ?_⟩ <;> first | rw[if_pos hc] at e | rw[if_neg hc] at e | rw[if_neg (by simp[hc])] at e) <;> try simp only[Out.bind_ok,Out.bind_err,Out.map_ok,Out.map_err,Out.bind_map,Out.bind_bind,Out.map_bind,Out.map_map] at e)
  | exact Sl _ [] [] (.nil _) (.nil _) (by simp) e
  | exact Sk _ _ [] (.nil _) (by simp) e
  | exact gg _ _ (by simp) (by simp) e
  | intro _
theorem TU (A:Rdr→Bool→Out (Rdr×Pat)) (O:Rdr→Out (Rdr×Cond)) (hp:S dc=zn f) (h1:S ac=bF) (h2:S eE=HY f A O) (h3:S bC=qx f) (h4:S ag=eH f) (h5:S aL=kP):
 eP jD jt S a0 (enc (X:=Pat)) f (Tv A O):=by
 rintro b s ⟨⟩ hf
 have hf: (repE A O s).fine f:=hf
 have e:=repE.eq_1 A O s
 simp[jD,jt,h1,h2,h3,h4,h5, -Bool.forall_bool, -Bool.exists_bool]
 intro b2
 refine jN hf e fun r e=> ?_
 intro b3
 refine ql (X:=Nat×Rdr×Pat) [0,2,3] [2] [] [] [] [] (fun z=> repE A O s=iB z.1 z.2.1 z.2.2) (fun _=> []) (fun z=> [(0, .box b (cI z.2.1)),(3, .box b3 (enc z.2.2).cells)]) (fun z=> z.1) (500,r.1,r.2) [0,3] (fun _=> rfl) (by decide) (by decide) e (by simp) (by simp) ?_
 clear e
 rintro⟨k,s1,x⟩ e
 simp only at e
 obtain _ | k:=k
 ·rw[e,iB] at hf;exact hf.elim
 rw[iB,LT] at e
 simp only[Ax,cf,ej,Out.bind_map,Out.map_map,Out.bind_bind,Out.map_bind] at e
 simp[h1,h3,h4,h5,hp, -Bool.forall_bool, -Bool.exists_bool]
 repeat' first
  | refine jN hf e fun q e=> ?_
  | refine Dv hf e fun q e=> ?_
  | refine mw hf e fun q e=> ?_
  | refine Dw hf e fun q e=> ?_
  | refine zI hf e fun q e=> ?_
  | ((refine⟨fun hc=> ?_,fun hc=> ?_⟩ <;> first | rw[if_pos hc] at e | rw[if_neg hc] at e | rw[if_neg (by simp[hc])] at e) <;> try simp only[Out.bind_ok,Out.bind_err,Out.map_ok,Out.map_err,Out.bind_map,Out.bind_bind,Out.map_bind,Out.map_map] at e)
  | (refine⟨k,_,_,e,⟨.inl ⟨rfl,rfl,rfl,rfl,rfl⟩,?_⟩,Nat.lt_succ_self _⟩;simp[Cond0,E0];done)
  | exact gg _ _ (by simp) (by simp) e
  | (rw[e] at hf;exact hf)
  | intro _
theorem TT (A:Rdr→Bool→Out (Rdr×Pat)) (O:Rdr→Out (Rdr×Cond)) (h1:S dO=zl) (h2:S dU=L7 f A O) (h3:S dj=nJ):
 eP jC js S (a1 Bool) (enc (X:=Pat)) f (Tu A O):=by
 rintro b s i hf
 have hf: (seqE A O s i).fine f:=hf
 have e:=seqE.eq_1 A O s i
 simp[jC,js,h1,h2,h3, -Bool.forall_bool, -Bool.exists_bool]
 intro b2
 refine jN hf e fun r e=> ?_
 intro v0
 refine gB (X:=Nat×Rdr×Value×List Pat) [0,1,4] [4] (fun z=> seqE A O s i=((hZ A O i z.1 z.2.1 z.2.2.2).map fun q=> (q.1,tU 4 q.2))∧z.2.2.2.length+z.1≤501) (fun z=> [(5, .own 8 z.2.2.1)]) (fun z=> [(0, .box b (cI z.2.1)),(8, .row z.2.2.1 ah 13 (z.2.2.2.map enc))]) (fun z=> z.1) (500,r.1,v0, [r.2]) ⟨e,by simp⟩ (by simp) (by simp) ?_
 clear e
 rintro⟨k,s1,v,l⟩ ⟨e,hlen⟩
 simp only at e hlen
 obtain _ | k:=k
 ·rw[e,hZ] at hf;exact hf.elim
 rw[hZ,Out.bind_map] at e
 simp[h1]
 refine mw hf e fun w e=> ?_
 simp[-Bool.forall_bool, -Bool.exists_bool,h2,h3]
 refine⟨fun hw=> ?_,fun hw=> ?_⟩
 ·rw[if_pos hw,Out.bind_map] at e
  exact jN hf e fun r2 e=> ⟨by omega,by omega,fun v'=> ⟨k,r2.1,v',l++ [r2.2],⟨e,by simp;omega⟩,⟨rfl, .inl ⟨rfl,rfl,rfl,rfl,rfl⟩, .inl ⟨rfl,by simp⟩⟩,by omega⟩⟩
 ·rw[if_neg (by simp[hw]),Out.map_ok] at e
  exact gg s1 (tU 4 l) (by simp) (by simp) e
theorem TZ (A:Rdr→Bool→Out (Rdr×Pat)) (O:Rdr→Out (Rdr×Cond)) (h1:S ac=bF) (h2:S dT=L6 f A O) (h3:S dj=nJ):
 eP jI jy S (a1 Bool) (enc (X:=Pat)) f (Tz (altE A O)):=by
 rintro b s i hf
 have hf: (altE A O s i).fine f:=hf
 have e:=altE.eq_1 A O s i
 simp[jI,jy,h1,h2,h3, -Bool.forall_bool, -Bool.exists_bool]
 intro b2
 refine jN hf e fun r e=> ?_
 intro v0
 refine gB (X:=Nat×Rdr×Value×List Pat) [0,1,4] [4] (fun z=> altE A O s i=((jd A O i z.1 z.2.1 z.2.2.2).map fun q=> (q.1,tU 5 q.2))∧z.2.2.2.length+z.1≤501) (fun z=> [(5, .own 9 z.2.2.1)]) (fun z=> [(0, .box b (cI z.2.1)),(9, .row z.2.2.1 ah 13 (z.2.2.2.map enc))]) (fun z=> z.1) (500,r.1,v0, [r.2]) ⟨e,by simp⟩ (by simp) (by simp) ?_
 clear e
 rintro⟨k,s1,v,l⟩ ⟨e,hlen⟩
 simp only at e hlen
 obtain _ | k:=k
 ·rw[e,jd] at hf;exact hf.elim
 rw[jd,Out.bind_map] at e
 simp[h1]
 refine mw hf e fun w e=> ?_
 simp[-Bool.forall_bool, -Bool.exists_bool,h2,h3]
 refine⟨fun hw=> ?_,fun hw=> ?_⟩
 ·rw[if_pos hw,Out.bind_map] at e
  exact jN hf e fun r2 e=> ⟨by omega,by omega,fun v'=> ⟨k,r2.1,v',l++ [r2.2],⟨e,by simp;omega⟩,⟨rfl, .inl ⟨rfl,rfl,rfl,rfl,rfl⟩, .inl ⟨rfl,by simp⟩⟩,by omega⟩⟩
 ·rw[if_neg (by simp[hw]),Out.map_ok] at e
  exact gg w.1 (tU 5 l) (by simp) (by simp) e
end Go.Gv

namespace Go.Gv
open Cod (enc dec)
variable {S S0:Nat→Spc} {f:Int×Int}
theorem KA {H:aa} {o mn mx:Int} {a b n g v:B} {fo:Bool} {da dk:D} (al:List B) (ks:List Glob) (ha:FrzTo H da (enc al)) (hd:FrzTo H dk (enc ks)):
 FrzTo H (.agg [.v (.int .i64 o), .v (.string a), .v (.string b), .v (.string n), .v (.string g), .v (.string v), .v (.bool fo), .v (.int .i64 mn), .v (.int .i64 mx),da,dk]) (enc (⟨o,a,b,n,g,v,fo,mn,mx,al,ks⟩:Glob)):=by
 rw[yD]
 refine .agg rfl fun k x y hx hy=> ?_
 rcases k with _ | _ | _ | _ | _ | _ | _ | _ | _ | _ | _ | k
 all_goals first
  | (cases hx;cases hy;exact .same _)
  | (cases hx;cases hy;exact ha)
  | (cases hx;cases hy;exact hd)
  | simp at hx
theorem Ey {b:Nat} {post:Rdr→Glob→Prop} {H:aa} {o mn mx:Int} {a b' n g v:B} {fo:Bool} {da dk:D} (s:Rdr) (al:List B) (ks:List Glob) (ha:FrzTo (fun i=> if i=0 then none else H i) da (enc al)) (hd:FrzTo (fun i=> if i=0 then none else H i) dk (enc ks))
 (h0:H 0=some (.box b (cI s))) (hq:post s ⟨o,a,b',n,g,v,fo,mn,mx,al,ks⟩):
 yQ enc b post (.agg [.v (.int .i64 o), .v (.string a), .v (.string b'), .v (.string n), .v (.string g), .v (.string v), .v (.bool fo), .v (.int .i64 mn), .v (.int .i64 mx),da,dk]) H:=gg s _ (KA al ks ha hd) h0 hq
abbrev s_globs:Spc:=dt (a2 Int (List Glob)) (fun _=> True) (enc (X:=Glob)) fun x y=> y=Sc x.1 x.2
theorem Zr {op:Int} {l:List Glob} (h:l.length≠1):Sc op l=⟨op,E0,E0,E0,E0,E0,false,0,0, [],l⟩:=by
 match l,h with
 | [],_=> rfl
 | [x],h=> exact absurd rfl h
 | x::y::l,_=> rfl
theorem TS:Walk oO nT S (a2 Int (List Glob)) (fun _=> True) (enc (X:=Glob)) fun x y=> y=Sc x.1 x.2:=by
 rintro⟨op,l⟩ -
 simp[oO,nT]
 refine fun b _=> ⟨fun h=> ⟨by omega,fun a ha=> ?_⟩,fun h=> ?_⟩
 ·have e:l= [a]:=by
   match l,h,ha with
   | [x],_,ha=> simp at ha;rw[ha]
  exact gq a (by simp) (by rw[e];rfl)
 ·exact gq (⟨op,E0,E0,E0,E0,E0,false,0,0, [],l⟩:Glob) (KA [] l (.nil _) (by simp)) (Zr (by omega)).symm
abbrev s_function:Spc:=dt (a1 B) (fun _=> True) (enc (X:=Int)) fun x y=> y=w9 x
theorem yV:Walk lz kW S (a1 B) (fun _=> True) (enc (X:=Int)) fun x y=> y=w9 x:=by
 rintro x -
 simp[lz,kW]
 refine⟨fun h=> by subst h;rfl,fun n1=> ⟨fun h=> by subst h;rfl,fun n2=> ⟨fun h=> by subst h;rfl,fun n3=> ⟨fun h=> by subst h;rfl,fun n4=> ⟨fun h=> by subst h;rfl,fun n5=> ⟨fun h=> by subst h;rfl,fun n6=> ⟨fun h=> by subst h;rfl,fun n7=> ⟨fun h=> by subst h;rfl,fun n8=> ?_⟩⟩⟩⟩⟩⟩⟩⟩
 have g: ∀ {y:B},¬x=y→ ¬y=x:=fun h e=> h e.symm
 simp[w9,funcsL,List.find?,g n1,g n2,g n3,g n4,g n5,g n6,g n7,g n8]
@[simp] abbrev Oh (N:Rdr→Out (Rdr×Glob)) (s:Rdr) (_:Unit):Out (Rdr×Glob):=N s
abbrev rm (f:Int×Int) (N:Rdr→Out (Rdr×Glob)):Spc:=xU a0 (enc (X:=Glob)) f (Oh N)
@[simp] abbrev Oi (N:Rdr→Out (Rdr×Glob)) (s:Rdr) (_:Unit):Out (Rdr×Glob):=gandE N s
abbrev HZ (f:Int×Int) (N:Rdr→Out (Rdr×Glob)):Spc:=xU a0 (enc (X:=Glob)) f (Oi N)
@[simp] abbrev Tw (N:Rdr→Out (Rdr×Glob)) (s:Rdr) (_:Unit):Out (Rdr×Glob):=gorE N s
abbrev CY (f:Int×Int) (N:Rdr→Out (Rdr×Glob)):Spc:=xU a0 (enc (X:=Glob)) f (Tw N)
@[simp] abbrev Lt (s:Rdr) (_:Unit):Out (Rdr×Glob):=gatomsE s
abbrev CZ (f:Int×Int):Spc:=xU a0 (enc (X:=Glob)) f Lt
theorem Qq (N:Rdr→Out (Rdr×Glob)) (h1:S ac=bF) (h2:S bn=rm f N) (h3:S eS=s_globs):
 eP iW ir S a0 (enc (X:=Glob)) f (Oi N):=by
 rintro b s ⟨⟩ hf
 have hf: (gandE N s).fine f:=hf
 have e:=gandE.eq_1 N s
 simp[iW,ir,h1,h2,h3, -Bool.forall_bool, -Bool.exists_bool]
 intro b2
 refine jN hf e fun r e=> ?_
 intro v0
 refine gB (X:=Nat×Rdr×Value×List Glob) [0,2] [2] (fun z=> gandE N s=((f5 N z.1 z.2.1 z.2.2.2).map fun q=> (q.1,Sc 12 q.2))∧z.2.2.2.length+z.1≤501) (fun z=> [(3, .own 6 z.2.2.1)]) (fun z=> [(0, .box b (cI z.2.1)),(6, .row z.2.2.1 aC 11 (z.2.2.2.map enc))]) (fun z=> z.1) (500,r.1,v0, [r.2]) ⟨e,by simp⟩ (by simp) (by simp) ?_
 clear e
 rintro⟨k,s1,v,l⟩ ⟨e,hlen⟩
 simp only at e hlen
 obtain _ | k:=k
 ·rw[e,f5] at hf;exact hf.elim
 rw[f5,Out.bind_map] at e
 simp[h1]
 refine mw hf e fun w e=> ?_
 simp[-Bool.forall_bool, -Bool.exists_bool,h2,h3]
 refine⟨fun hw=> ?_,fun hw=> ?_⟩
 ·rw[if_pos hw,Out.bind_map] at e
  exact jN hf e fun r2 e=> ⟨by omega,by omega,fun v'=> ⟨k,r2.1,v',l++ [r2.2],⟨e,by simp;omega⟩,⟨rfl, .inl ⟨rfl,rfl,rfl,rfl,rfl⟩, .inl ⟨rfl,by simp⟩⟩,by omega⟩⟩
 ·rw[if_neg (by simp[hw]),Out.map_ok] at e
  exact gg w.1 (Sc 12 l) (by simp) (by simp) e
theorem TW (N:Rdr→Out (Rdr×Glob)) (h1:S ac=bF) (h2:S dH=HZ f N) (h3:S eS=s_globs):
 eP jF jv S a0 (enc (X:=Glob)) f (Tw N):=by
 rintro b s ⟨⟩ hf
 have hf: (gorE N s).fine f:=hf
 have e:=gorE.eq_1 N s
 simp[jF,jv,h1,h2,h3, -Bool.forall_bool, -Bool.exists_bool]
 intro b2
 refine jN hf e fun r e=> ?_
 intro v0
 refine gB (X:=Nat×Rdr×Value×List Glob) [0,2] [2] (fun z=> gorE N s=((iG N z.1 z.2.1 z.2.2.2).map fun q=> (q.1,Sc 13 q.2))∧z.2.2.2.length+z.1≤501) (fun z=> [(3, .own 6 z.2.2.1)]) (fun z=> [(0, .box b (cI z.2.1)),(6, .row z.2.2.1 aC 11 (z.2.2.2.map enc))]) (fun z=> z.1) (500,r.1,v0, [r.2]) ⟨e,by simp⟩ (by simp) (by simp) ?_
 clear e
 rintro⟨k,s1,v,l⟩ ⟨e,hlen⟩
 simp only at e hlen
 obtain _ | k:=k
 ·rw[e,iG] at hf;exact hf.elim
 rw[iG,Out.bind_map] at e
 simp[h1]
 refine mw hf e fun w e=> ?_
 simp[-Bool.forall_bool, -Bool.exists_bool,h2,h3]
 refine⟨fun hw=> ?_,fun hw=> ?_⟩
 ·rw[if_pos hw,Out.bind_map] at e
  exact jN hf e fun r2 e=> ⟨by omega,by omega,fun v'=> ⟨k,r2.1,v',l++ [r2.2],⟨e,by simp;omega⟩,⟨rfl, .inl ⟨rfl,rfl,rfl,rfl,rfl⟩, .inl ⟨rfl,by simp⟩⟩,by omega⟩⟩
 ·rw[if_neg (by simp[hw]),Out.map_ok] at e
  exact gg w.1 (Sc 13 l) (by simp) (by simp) e
theorem Qp (N:Rdr→Out (Rdr×Glob)) (h1:S ac=bF) (h2:S bn=rm f N) (h3:S ag=eH f) (h4:S cy=CY f N) (h5:S ee=CZ f):
 eP iV iq S a0 (enc (X:=Glob)) f (Oh (gnotE N (gorE N))):=by
 rintro b s ⟨⟩ hf
 have hf: (gnotE N (gorE N) s).fine f:=hf
 have e:=gnotE.eq_1 N (gorE N) s
 simp only[cf,ej,Out.bind_map,Out.map_map,Out.bind_bind,Out.map_bind] at e
 simp[iV,iq,h1,h2,h3,h4,h5, -Bool.forall_bool, -Bool.exists_bool]
 repeat' first
  | refine jN hf e fun q e=> ?_
  | refine Dv hf e fun q e=> ?_
  | refine mw hf e fun q e=> ?_
  | refine Dw hf e fun q e=> ?_
  | refine zI hf e fun q e=> ?_
  | ((refine⟨fun hc=> ?_,fun hc=> ?_⟩ <;> first | rw[if_pos hc] at e | rw[if_neg hc] at e | rw[if_neg (by simp[hc])] at e) <;> try simp only[Out.bind_ok,Out.bind_err,Out.map_ok,Out.map_err,Out.bind_map,Out.bind_bind,Out.map_bind,Out.map_map] at e)
  | exact Ey _ [] [] (.nil _) (.nil _) (by simp) e
  | exact Ey _ [] [_] (.nil _) (by simp) (by simp) e
  | exact gg _ _ (by simp) (by simp) e
  | (rw[e] at hf;exact hf)
  | intro _
def aNil:jL (Int×B) where
 dec
  | [.agg [.v (.int .i64 op), .v (.string a), .v (.string b), .v (.string c), .v (.string d), .v (.string e), .v (.bool g), .v (.int .i64 m), .v (.int .i64 n), .v (.slice none 0 0), .v (.slice none 0 0)]]=> if b=E0∧c=E0∧d=E0∧e=E0∧g=false∧m=0∧n=0 then some (op,a) else none
  | _=> none
 view z:= [.agg [.v (.int .i64 z.1), .v (.string z.2), .v (.string E0), .v (.string E0), .v (.string E0), .v (.string E0), .v (.bool false), .v (.int .i64 0), .v (.int .i64 0), .v (.slice none 0 0), .v (.slice none 0 0)]]
 le ds z h:=by
  split at h
  ·split at h
   ·rename_i hh
    obtain⟨rfl,rfl,rfl,rfl,rfl,rfl,rfl⟩:=hh
    cases h
    exact .cons (.same _) .nil
   ·cases h
  ·cases h
@[simp] theorem Z8 (op:Int) (a:B):aNil.dec [.agg [.v (.int .i64 op), .v (.string a), .v (.string ⟨#[]⟩), .v (.string ⟨#[]⟩), .v (.string ⟨#[]⟩), .v (.string ⟨#[]⟩), .v (.bool false), .v (.int .i64 0), .v (.int .i64 0), .v (.slice none 0 0), .v (.slice none 0 0)]]=some (op,a):=id rfl
@[simp] theorem Yr (z:Int×B):aNil.view z= [.agg [.v (.int .i64 z.1), .v (.string z.2), .v (.string ⟨#[]⟩), .v (.string ⟨#[]⟩), .v (.string ⟨#[]⟩), .v (.string ⟨#[]⟩), .v (.bool false), .v (.int .i64 0), .v (.int .i64 0), .v (.slice none 0 0), .v (.slice none 0 0)]]:=id rfl
@[simp] abbrev Ok (s:Rdr) (z:Int×B):Out (Rdr×Glob):=argsE s z.1 z.2
abbrev H5 (f:Int×Int):Spc:=xU aNil (enc (X:=Glob)) f Ok
theorem OB (h1:S ac=bF) (h2:S aq=kS f) (h3:S ag=eH f) (h4:S az=jf f) (h5:S bg=ri) (h6:S f9=s_function) (h7:S cT=H5 f):
 eP hG gW S a0 (enc (X:=Glob)) f (Lt):=by
 rintro b s ⟨⟩ hf
 have hf: (gatomsE s).fine f:=hf
 have e:=gatomsE.eq_1 s
 simp only[uN,cf,ej,Out.bind_map,Out.map_map,Out.bind_bind,Out.map_bind] at e
 simp[hG,gW,h1,h2,h3,h4,h5,h6,h7, -Bool.forall_bool, -Bool.exists_bool]
 repeat' first
  | refine jN hf e fun q e=> ?_
  | refine Dv hf e fun q e=> ?_
  | refine mw hf e fun q e=> ?_
  | refine Dw hf e fun q e=> ?_
  | refine zI hf e fun q e=> ?_
  | ((refine⟨fun hc=> ?_,fun hc=> ?_⟩ <;> first | rw[if_pos hc] at e | rw[if_neg hc] at e | rw[if_neg (by simp[hc])] at e) <;> try simp only[Out.bind_ok,Out.bind_err,Out.map_ok,Out.map_err,Out.bind_map,Out.bind_bind,Out.map_bind,Out.map_map] at e)
  | exact Ey _ [] [] (.nil _) (.nil _) (by simp) e
  | exact Ey _ [] [_] (.nil _) (by simp) (by simp) e
  | exact gg _ _ (by simp) (by simp) e
  | (rw[e] at hf;exact hf)
  | intro _
theorem FH (h1:S ac=bF) (h2:S ag=eH f) (h3:S az=jf f) (h4:S di=C0 f) (h5:S bJ=C1 f) (h6:S cN=zt f):
 eP fw fq S aNil (enc (X:=Glob)) f Ok:=by
 rintro b s ⟨op,a⟩ hf
 have hf: (argsE s op a).fine f:=hf
 have e:=argsE.eq_1 s op a
 simp[fw,fq,h1,h2,h3,h4,h5,h6, -Bool.forall_bool, -Bool.exists_bool]
 intro b3 b4
 refine⟨fun hc=> ?_,fun hc=> ?_⟩
 ·rw[if_pos hc] at e
  exact Ey s [] [] (.nil _) (.nil _) (by simp) e
 rw[if_neg hc] at e
 refine⟨fun hc2=> ?_,fun hc2=> ?_⟩
 ·rw[if_pos hc2] at e
  repeat' first
   | refine jN hf e fun q e=> ?_
   | refine Dv hf e fun q e=> ?_
   | refine mw hf e fun q e=> ?_
   | refine Dw hf e fun q e=> ?_
   | refine zI hf e fun q e=> ?_
   | ((refine⟨fun hc=> ?_,fun hc=> ?_⟩ <;> first | rw[if_pos hc] at e | rw[if_neg hc] at e | rw[if_neg (by simp[hc])] at e) <;> try simp only[Out.bind_ok,Out.bind_err,Out.map_ok,Out.map_err,Out.bind_map,Out.bind_bind,Out.map_bind,Out.map_map] at e)
   | exact Ey _ [] [] (.nil _) (.nil _) (by simp) e
   | exact Ey _ [] [_] (.nil _) (by simp) (by simp) e
   | exact gg _ _ (by simp) (by simp) e
   | (rw[e] at hf;exact hf)
   | intro _
 rw[if_neg hc2] at e
 refine jN hf e fun q e=> ?_
 refine xq (X:=Rdr×Glob) [4] [4] [59] [] (fun z=> argsE s op a= .ok (z.1,z.2)) (fun _=> [(3, .bptr 3 b3 0)]) (fun z=> [(0, .box b (cI z.1)),(3, .box b3 (enc z.2).cells)]) [0,3] (fun _=> rfl) (by decide) ?_ ?_
 ·simp[h1,h2,h3,h4,h5,h6, -Bool.forall_bool, -Bool.exists_bool]
  refine⟨fun g4=> ?_,fun g4=> ?_⟩
  ·rw[if_pos g4] at e
   repeat' first
    | refine jN hf e fun q e=> ?_
    | refine Dv hf e fun q e=> ?_
    | refine mw hf e fun q e=> ?_
    | refine Dw hf e fun q e=> ?_
    | refine zI hf e fun q e=> ?_
    | ((refine⟨fun hc=> ?_,fun hc=> ?_⟩ <;> first | rw[if_pos hc] at e | rw[if_neg hc] at e | rw[if_neg (by simp[hc])] at e) <;> try simp only[Out.bind_ok,Out.bind_err,Out.map_ok,Out.map_err,Out.bind_map,Out.bind_bind,Out.map_bind,Out.map_map] at e)
    | exact⟨_,_,e, .inl ⟨rfl,rfl,rfl,rfl,rfl⟩, .inl ⟨rfl,rfl,rfl,rfl,rfl,rfl,rfl,rfl,rfl,rfl,rfl⟩⟩
    | intro _
  rw[if_neg g4] at e
  refine⟨fun g5=> ?_,fun g5=> ?_⟩
  ·rw[if_pos (.inl g5)] at e
   refine⟨fun _=> ?_,fun h=> absurd g5 h⟩
   repeat' first
    | refine jN hf e fun q e=> ?_
    | refine Dv hf e fun q e=> ?_
    | refine mw hf e fun q e=> ?_
    | refine Dw hf e fun q e=> ?_
    | refine zI hf e fun q e=> ?_
    | ((refine⟨fun hc=> ?_,fun hc=> ?_⟩ <;> first | rw[if_pos hc] at e | rw[if_neg hc] at e | rw[if_neg (by simp[hc])] at e) <;> try simp only[Out.bind_ok,Out.bind_err,Out.map_ok,Out.map_err,Out.bind_map,Out.bind_bind,Out.map_bind,Out.map_map] at e)
    | exact⟨_,_,e, .inl ⟨rfl,rfl,rfl,rfl,rfl⟩, .inl ⟨rfl,rfl,rfl,rfl,rfl,rfl,rfl,rfl,rfl,rfl,rfl⟩⟩
    | intro _
  refine⟨fun g9=> ?_,fun g9=> ?_⟩
  ·rw[if_pos (.inr g9)] at e
   repeat' first
    | refine jN hf e fun q e=> ?_
    | refine Dv hf e fun q e=> ?_
    | refine mw hf e fun q e=> ?_
    | refine Dw hf e fun q e=> ?_
    | refine zI hf e fun q e=> ?_
    | ((refine⟨fun hc=> ?_,fun hc=> ?_⟩ <;> first | rw[if_pos hc] at e | rw[if_neg hc] at e | rw[if_neg (by simp[hc])] at e) <;> try simp only[Out.bind_ok,Out.bind_err,Out.map_ok,Out.map_err,Out.bind_map,Out.bind_bind,Out.map_bind,Out.map_map] at e)
    | exact⟨_,_,e, .inl ⟨rfl,rfl,rfl,rfl,rfl⟩, .inl ⟨rfl,rfl,rfl,rfl,rfl,rfl,rfl,rfl,rfl,rfl,rfl⟩⟩
    | intro _
  rw[if_neg (by omega)] at e
  refine⟨fun g8=> ?_,fun g8=> ?_⟩
  rotate_left
  ·rw[if_neg g8] at e
   exact⟨_,_,e, .inl ⟨rfl,rfl,rfl,rfl,rfl⟩, .inl ⟨rfl,rfl,rfl,rfl,rfl,rfl,rfl,rfl,rfl,rfl,rfl⟩⟩
  rw[if_pos g8] at e
  refine ql (X:=Nat×Rdr×Value×List B) [0,3,4] [4] [] [] [] [] (fun z=> argsE s op a=((ge z.1 z.2.1 z.2.2.2).map fun l=> (l.1,⟨op,a,q.2,E0,E0,E0,false,0,0,l.2, []⟩))∧z.2.2.2.length+z.1≤500) (fun _=> []) (fun z=> [(0, .box b (cI z.2.1)),(3, .box b3 [.v (.int .i64 op), .v (.string a), .v (.string q.2), .v (.string ⟨#[]⟩), .v (.string ⟨#[]⟩), .v (.string ⟨#[]⟩), .v (.bool false), .v (.int .i64 0), .v (.int .i64 0), .own 59 z.2.2.1, .v (.slice none 0 0)]),(59, .row z.2.2.1 ax 1 (z.2.2.2.map enc))]) (fun z=> z.1) (500,q.1, .slice none 0 0, []) [0,3,59] (fun _=> rfl) (by decide) (by decide) ⟨e,by simp⟩ ?_ ?_ ?_
  ·simp
  ·simp[isNilRow]
   exact .nilown 59
  clear e
  rintro⟨k,s1,v,l⟩ ⟨e,hlen⟩
  simp only at e hlen
  obtain _ | k:=k
  ·rw[e,ge] at hf;exact hf.elim
  rw[ge,Out.bind_map] at e
  simp[h1,h3, -Bool.forall_bool, -Bool.exists_bool]
  refine mw hf e fun w e=> ⟨fun hw=> ?_,fun hw=> ?_⟩
  ·rw[if_pos hw,Out.bind_map] at e
   refine jN hf e fun r2 e=> ?_
   exact⟨by omega,by omega,fun v'=> ⟨k,r2.1,v',l++ [r2.2],⟨e,by simp;omega⟩,⟨.inl ⟨rfl,rfl,rfl,rfl,rfl⟩, .inl (.inl rfl), .inl (.inl (by simp))⟩,by omega⟩⟩
  ·rw[if_neg (by simp[hw]),Out.map_ok] at e
   exact⟨w.1,⟨op,a,q.2,E0,E0,E0,false,0,0,l, []⟩,e, .inl ⟨rfl,rfl,rfl,rfl,rfl⟩, .inl ⟨rfl,rfl,rfl,rfl,rfl,rfl,rfl,rfl,rfl,MF ax (by simp[Po]),rfl⟩⟩
 ·rintro⟨s9,g⟩ e
  simp only at e
  simp
  exact gg s9 g (by simp) (by simp) e
end Go.Gv
