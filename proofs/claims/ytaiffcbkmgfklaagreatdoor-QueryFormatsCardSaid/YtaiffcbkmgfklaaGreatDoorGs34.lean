/- A part of the framework and of the walks: W86 W87 W88 W89 C11. -/
import Derived.Test.YtaiffcbkmgfklaaGreatDoorGs31
import Derived.Test.YtaiffcbkmgfklaaGreatDoorGs33
import Derived.Test.YtaiffcbkmgfklaaGreatDoorGs17
set_option linter.unusedSimpArgs false
set_option linter.unusedVariables false
set_option maxRecDepth 100000

namespace Go.Gv
open Cod (enc dec)
variable {S S0:Nat→Spc} {f:Int×Int}
@[simp] abbrev Pp (N:Rdr→Out (Rdr×Cond)) (s:Rdr) (_:Unit):Out (Rdr×Cond):=N s
abbrev yP (f:Int×Int) (N:Rdr→Out (Rdr×Cond)):Spc:=z7 a0 (enc (X:=Cond)) f (Pp N)
@[simp] abbrev VS (N:Rdr→Out (Rdr×Cond)) (s:Rdr) (_:Unit):Out (Rdr×Cond):=andE N s
abbrev Oh (f:Int×Int) (N:Rdr→Out (Rdr×Cond)):Spc:=z7 a0 (enc (X:=Cond)) f (VS N)
@[simp] abbrev Yy (N:Rdr→Out (Rdr×Cond)) (s:Rdr) (_:Unit):Out (Rdr×Cond):=orE N s
abbrev PB (f:Int×Int) (N:Rdr→Out (Rdr×Cond)):Spc:=z7 a0 (enc (X:=Cond)) f (Yy N)
theorem Wu (N:Rdr→Out (Rdr×Cond)) (h1:S af=cb) (h2:S bW=yP f N) (h3:S f0=zV):
 fV lw lg S a0 (enc (X:=Cond)) f (VS N):=by
 rintro b s ⟨⟩ hf
 have hf: (andE N s).fine f:=hf
 have e:=andE.eq_1 N s
 simp[lw,lg,h2]
 intro b2
 refine lF hf e fun r e=> ?_
 intro v0
 refine jL (X:=Nat×Rdr×Value×List Cond) [0,2] [2] (fun z=> andE N s=((lO N z.1 z.2.1 z.2.2.2).map fun q=> (q.1,Vp 7 q.2))∧z.2.2.2.length+z.1≤501) (fun z=> [(3, .own 6 z.2.2.1)]) (fun z=> [(0, .box b (dw z.2.1)),(6, .row z.2.2.1 aR 7 (z.2.2.2.map enc))]) (fun z=> z.1) (500,r.1,v0, [r.2]) ⟨e,by simp⟩ (by simp) (by simp) ?_
 clear e
 rintro⟨k,s1,v,l⟩ ⟨e,hlen⟩
 simp only at e hlen
 obtain _ | k:=k
 ·rw[e,lO] at hf;exact hf.elim
 rw[lO,Out.bind_map] at e
 simp[h1]
 refine oO hf e fun w e=> ?_
 simp[-Bool.forall_bool, -Bool.exists_bool,h2,h3]
 refine⟨fun hw=> ?_,fun hw=> ?_⟩
 ·rw[if_pos hw,Out.bind_map] at e
  exact lF hf e fun r2 e=> ⟨by omega,by omega,fun v'=> ⟨k,r2.1,v',l++ [r2.2],⟨e,by simp;omega⟩,⟨rfl, .inl ⟨rfl,rfl,rfl,rfl,rfl⟩, .inl ⟨rfl,by simp⟩⟩,by omega⟩⟩
 ·rw[if_neg (by simp[hw]),Out.map_ok] at e
  exact iC w.1 (Vp 7 l) (by simp) (by simp) e
theorem YJ (N:Rdr→Out (Rdr×Cond)) (h1:S af=cb) (h2:S eL=Oh f N) (h3:S f0=zV):
 fV mh l7 S a0 (enc (X:=Cond)) f (Yy N):=by
 rintro b s ⟨⟩ hf
 have hf: (orE N s).fine f:=hf
 have e:=orE.eq_1 N s
 simp[mh,l7,h2]
 intro b2
 refine lF hf e fun r e=> ?_
 intro v0
 refine jL (X:=Nat×Rdr×Value×List Cond) [0,2] [2] (fun z=> orE N s=((oh N z.1 z.2.1 z.2.2.2).map fun q=> (q.1,Vp 8 q.2))∧z.2.2.2.length+z.1≤501) (fun z=> [(3, .own 6 z.2.2.1)]) (fun z=> [(0, .box b (dw z.2.1)),(6, .row z.2.2.1 aR 7 (z.2.2.2.map enc))]) (fun z=> z.1) (500,r.1,v0, [r.2]) ⟨e,by simp⟩ (by simp) (by simp) ?_
 clear e
 rintro⟨k,s1,v,l⟩ ⟨e,hlen⟩
 simp only at e hlen
 obtain _ | k:=k
 ·rw[e,oh] at hf;exact hf.elim
 rw[oh,Out.bind_map] at e
 simp[h1]
 refine oO hf e fun w e=> ?_
 simp[-Bool.forall_bool, -Bool.exists_bool,h2,h3]
 refine⟨fun hw=> ?_,fun hw=> ?_⟩
 ·rw[if_pos hw,Out.bind_map] at e
  exact lF hf e fun r2 e=> ⟨by omega,by omega,fun v'=> ⟨k,r2.1,v',l++ [r2.2],⟨e,by simp;omega⟩,⟨rfl, .inl ⟨rfl,rfl,rfl,rfl,rfl⟩, .inl ⟨rfl,by simp⟩⟩,by omega⟩⟩
 ·rw[if_neg (by simp[hw]),Out.map_ok] at e
  exact iC w.1 (Vp 8 l) (by simp) (by simp) e
@[simp] abbrev Qy (s:Rdr) (_:Unit):Out (Rdr×Cond):=atomsE s
abbrev J8 (f:Int×Int):Spc:=z7 a0 (enc (X:=Cond)) f Qy
theorem SH (h1:S af=cb) (h2:S av=mP f) (h3:S ai=fN f) (h4:S aF=kK f) (h5:S br=tq) (h6:S a8=pS) (h7:S bE=tr):
 fV kF j2 S a0 (enc (X:=Cond)) f Qy:=by
 rintro b s ⟨⟩ hf
 have hf: (atomsE s).fine f:=hf
 have e:=atomsE.eq_1 s
 simp only[D5,Jk,yB,dx,ir,Out.bind_map,Out.map_map,Out.bind_bind,Out.map_bind] at e
 simp[kF,j2,h1,h2,h3,h4,h5,h6,h7, -Bool.forall_bool, -Bool.exists_bool]
 repeat' first
  | refine lF hf e fun q e=> ?_
  | refine Fx hf e fun q e=> ?_
  | refine oO hf e fun q e=> ?_
  | refine Fy hf e fun q e=> ?_
  | refine By hf e fun q e=> ?_
  | (refine⟨fun hc=> ?_,fun hc=> ?_⟩ <;> first | rw[if_pos hc] at e | rw[if_neg hc] at e | rw[if_neg (by simp[hc])] at e)
  | exact Jb _ [] (.nil _) (by simp) e
  | exact Jb _ [⟨2,_,E0,_,E0,_, []⟩] (P6 _ (GJ [] (.nil _))) (by simp) e
  | exact Jb _ [_] (by simp) (by simp) e
  | exact iC _ _ (by simp) (by simp) e
  | intro _
theorem Wr (N:Rdr→Out (Rdr×Cond)) (h1:S af=cb) (h2:S bW=yP f N) (h3:S ai=fN f) (h4:S dA=PB f N) (h5:S fL=J8 f):
 fV lr lc S a0 (enc (X:=Cond)) f (Pp (notE N (orE N))):=by
 rintro b s ⟨⟩ hf
 have hf: (notE N (orE N) s).fine f:=hf
 have e:=notE.eq_1 N (orE N) s
 simp only[ dx,ir,Out.bind_map,Out.map_map,Out.bind_bind,Out.map_bind] at e
 simp[lr,lc,h1,h2,h3,h4,h5, -Bool.forall_bool, -Bool.exists_bool]
 repeat' first
  | refine lF hf e fun q e=> ?_
  | refine Fx hf e fun q e=> ?_
  | refine oO hf e fun q e=> ?_
  | refine Fy hf e fun q e=> ?_
  | refine By hf e fun q e=> ?_
  | (refine⟨fun hc=> ?_,fun hc=> ?_⟩ <;> first | rw[if_pos hc] at e | rw[if_neg hc] at e | rw[if_neg (by simp[hc])] at e)
  | exact Jb _ [] (.nil _) (by simp) e
  | exact Jb _ [⟨2,_,E0,_,E0,_, []⟩] (P6 _ (GJ [] (.nil _))) (by simp) e
  | exact Jb _ [_] (by simp) (by simp) e
  | exact iC _ _ (by simp) (by simp) e
  | intro _
end Go.Gv

namespace Go.Gv
open Cod (enc dec)
variable {S S0:Nat→Spc} {f:Int×Int}
@[simp] abbrev Jo (s:Rdr) (z:Int×Int):Out (Rdr×Int):=numberE s z.1 z.2
abbrev sL (f:Int×Int):Spc:=z7 (a2 Int Int) (enc (X:=Int)) f Jo
theorem MT {b:Nat} {post:Rdr→Int→Prop} {v:Int} {H:ae} (s:Rdr) (h0:H 0=some (.box b (dw s))) (hq:post s v):AR enc b post (.v (.int .i64 v)) H:=iC s v (.same _) h0 hq
theorem Qf {t:B} (h:yo t=true) {k:Nat} {c:UInt8} (hc:t.data[k]?=some c):48≤c.toNat∧c.toNat≤57:=by
 have:=List.all_eq_true.1 h c (by rw[←Array.getElem?_toList] at hc;exact List.mem_of_getElem? hc)
 simpa using this
theorem LL {t:B} {k:Nat} {c:UInt8} (hc: (nn t).data[k]?=some c): ∃j:Nat,t.data[j]?=some c:=by
 rw[nn,ByteArray.data_extract,Array.getElem?_extract] at hc
 split at hc
 ·exact⟨_,hc⟩
 ·cases hc
theorem NV (h1:S aF=kK f) (h2:S gk=s_trimLeft) (hp:S dW=Bd f):fV i7 iO S (a2 Int Int) (enc (X:=Int)) f Jo:=by
 rintro b s ⟨most,a⟩ hf
 have hf: (numberE s most a).fine f:=hf
 have e:=numberE.eq_1 s most a
 simp[i7,iO,h1,h2]
 refine lF hf e fun r e=> ?_
 have hdm:yo r.2=true∧most≤1000000:=by
  by_cases h:yo r.2=true∧most≤1000000
  ·exact h
  ·rw[if_neg h] at e
   rw[e] at hf
   exact hf.elim
 rw[if_pos hdm] at e
 obtain⟨hd,hm⟩:=hdm
 refine jL (X:=Nat×Int) [1,2,7] [0] (fun z=> z.1≤(nn r.2).size∧0≤z.2∧z.2≤100000000∧KA most ((nn r.2).data.toList.drop z.1) z.2=DI most r.2) (fun z=> [(8,enc z.2),(9,enc (z.1:Int))]) (fun _=> []) (fun z=> (nn r.2).size -z.1) (0,0) ⟨by simp,by simp,by simp,rfl⟩ (by simp) (by simp) ?_
 rintro⟨k,n⟩ ⟨hk,h0,hb,hn⟩
 simp only at hk h0 hb hn
 simp[hp]
 have fin:KA most ((nn r.2).data.toList.drop k) n=n→(most < n→(a,8)=f)∧(n≤most→numberE s most a= .ok (r.1,n)):=by
  intro hx
  rw[hx] at hn
  rw[←hn] at e
  refine⟨fun h=> ?_,fun h=> ?_⟩
  ·rw[if_pos h] at e
   rw[e] at hf
   exact hf
  ·rw[if_neg (by omega)] at e
   exact e
 refine fun _=> ⟨fun hlt=> ⟨fun hle=> ?_,fun hgt=> ?_⟩,fun hge=> ?_⟩
 ·have iwr: ∀x:Int,0≤x→x≤9→IntKind.i64.wrap x=x:=fun x _ _=> InR.wrap (k:= .i64) (by simp only[InR];omega)
  refine⟨by simp only[InR];omega,hlt,fun c hc=> ?_⟩
  obtain⟨j,hj⟩:=LL hc
  have hcd:=Qf hd hj
  rw[iwr _ (by omega) (by omega)]
  refine⟨by simp only[InR];omega,by simp only[InR];omega,by simp only[InR];omega,k+1,10*n+ ((c.toNat:Int) -48),⟨by omega,by omega,by omega,?_⟩,⟨rfl,by omega⟩,by omega⟩
  rw[←hn]
  have hd2: (nn r.2).data.toList.drop k=c:: (nn r.2).data.toList.drop (k+1):=ek (by rw[Array.getElem?_toList];exact hc)
  rw[hd2,KA,if_pos hle]
 ·have hx:=fin (by
   have hc: ∃c,(nn r.2).data[k]?=some c:=⟨_,Array.getElem?_eq_getElem hlt⟩
   obtain⟨c,hc⟩:=hc
   have hd2: (nn r.2).data.toList.drop k=c:: (nn r.2).data.toList.drop (k+1):=ek (by rw[Array.getElem?_toList];exact hc)
   rw[hd2,KA,if_neg (by omega)])
  exact⟨hx.1,fun h=> MT r.1 (by simp) (hx.2 h)⟩
 ·have hx:=fin (by
   rw[List.drop_eq_nil_of_le (by simpa using hge),KA])
  exact⟨hx.1,fun h=> MT r.1 (by simp) (hx.2 h)⟩
@[simp] abbrev VR (s:Rdr) (_:Unit):Out (Rdr×Int):=bigE s
abbrev E9 (f:Int×Int):Spc:=z7 a0 (enc (X:=Int)) f VR
theorem Wt (h1:S bZ=sL f):fV lv lf S a0 (enc (X:=Int)) f VR:=by
 rintro b s ⟨⟩ hf
 have hf: (bigE s).fine f:=hf
 have e:=bigE.eq_1 s
 simp[lv,lf,h1]
 exact By hf e fun q e=> MT q.1 (by simp) e
theorem PL (most:Int): ∀ (l:List UInt8) (n:Int),(∀c∈l,48≤c.toNat)→0≤n→0≤KA most l n
 | [],n,_,h=> h
 | c::l,n,hc,h=> by
   rw[KA]
   split
   ·have:=hc c (by simp)
    exact PL most l _ (fun x hx=> hc x (by simp[hx])) (by omega)
   ·exact h
theorem WW {most:Int} {t:B} (h:yo t=true):0≤DI most t:=by
 refine PL _ _ _ (fun c hc=> ?_) (Int.le_refl _)
 obtain⟨k,hk⟩:=List.mem_iff_getElem?.1 hc
 obtain⟨j,hj⟩:=LL (by rw[←Array.getElem?_toList];exact hk)
 exact(Qf h hj).1
theorem Mi {s:Rdr} {most a:Int} {r:Rdr×Int} (h:numberE s most a= .ok r):0≤r.2∧r.2≤most:=by
 rw[numberE] at h
 cases ht:fX s 3 with
 | no=> rw[ht] at h;cases h
 | err g=> rw[ht] at h;cases h
 | ok x=>
   rw[ht,Out.bind_ok] at h
   split at h
   ·rename_i hd
    split at h
    ·cases h
    ·cases h
     exact⟨WW hd.1,by omega⟩
   ·cases h
@[simp] abbrev Jn (s:Rdr) (_:Unit):Out (Rdr×Int):=signedE s
abbrev Bj (f:Int×Int):Spc:=z7 a0 (enc (X:=Int)) f Jn
theorem NU (h1:S af=cb) (h2:S cq=E9 f):fV iZ iM S a0 (enc (X:=Int)) f Jn:=by
 rintro b s ⟨⟩ hf
 have hf: (signedE s).fine f:=hf
 have e:=signedE.eq_1 s
 simp only[dx] at e
 simp[iZ,iM,h1,h2, -Bool.forall_bool, -Bool.exists_bool]
 refine oO hf e fun q e=> ⟨fun hc=> ?_,fun hc=> ?_⟩
 ·rw[if_pos hc] at e
  have hr: ∀x,bigE q.1= .ok x→InR .i64 (-x.2):=fun x hx=> by
   have:=Mi hx
   simp only[InR]
   omega
  cases hb:bigE q.1 with
  | no=> rw[e,hb] at hf;exact hf.elim
  | err g=> rw[e,hb] at hf;exact hf
  | ok x=>
    rw[hb] at e
    exact⟨hr x hb,MT x.1 (by simp) e⟩
 ·rw[if_neg (by simp[hc])] at e
  exact By hf e fun q e=> MT q.1 (by simp) e
end Go.Gv

namespace Go.Gv
open Cod (enc dec)
variable {S S0:Nat→Spc} {f:Int×Int}
@[simp] abbrev Qv (A:Rdr→Bool→Out (Rdr×Pat)) (O:Rdr→Out (Rdr×Cond)) (s:Rdr) (_:Unit):Out (Rdr×Pat):=itemE A O s
abbrev J6 (f:Int×Int) (A:Rdr→Bool→Out (Rdr×Pat)) (O:Rdr→Out (Rdr×Cond)):Spc:=z7 a0 (enc (X:=Pat)) f (Qv A O)
@[simp] abbrev VO (A:Rdr→Bool→Out (Rdr×Pat)) (O:Rdr→Out (Rdr×Cond)) (s:Rdr) (_:Unit):Out (Rdr×Pat):=repE A O s
abbrev Og (f:Int×Int) (A:Rdr→Bool→Out (Rdr×Pat)) (O:Rdr→Out (Rdr×Cond)):Spc:=z7 a0 (enc (X:=Pat)) f (VO A O)
@[simp] abbrev VN (A:Rdr→Bool→Out (Rdr×Pat)) (O:Rdr→Out (Rdr×Cond)) (s:Rdr) (i:Bool):Out (Rdr×Pat):=seqE A O s i
abbrev Of (f:Int×Int) (A:Rdr→Bool→Out (Rdr×Pat)) (O:Rdr→Out (Rdr×Cond)):Spc:=z7 (a1 Bool) (enc (X:=Pat)) f (VN A O)
@[simp] abbrev VT (A:Rdr→Bool→Out (Rdr×Pat)) (s:Rdr) (i:Bool):Out (Rdr×Pat):=A s i
abbrev Fa (f:Int×Int) (A:Rdr→Bool→Out (Rdr×Pat)):Spc:=z7 (a1 Bool) (enc (X:=Pat)) f (VT A)
@[simp] abbrev NA (O:Rdr→Out (Rdr×Cond)) (s:Rdr) (l:B):Out (Rdr×Pat):=tokenE O s l
abbrev E5 (f:Int×Int) (O:Rdr→Out (Rdr×Cond)):Spc:=z7 (a1 B) (enc (X:=Pat)) f (NA O)
theorem UW {b:Nat} {post:Rdr→Pat→Prop} {H:ae} {op:Int} {lb rg:B} {d:D} {mn mx:Int} (s:Rdr) (x:Cond) (ks:List Pat) (hd:FrzTo (fun i=> if i=0 then none else H i) d (enc ks))
 (h0:H 0=some (.box b (dw s))) (hq:post s ⟨op,x,lb,rg,mn,mx,ks⟩):
 AR enc b post (.agg [.v (.int .i64 op), .v (.int .i64 x.op), .v (.string x.name), .v (.string x.arg), .v (.string x.val), .v (.string x.lab), .v (.bool x.fold), .list 7 (x.kids.map enc), .v (.string lb), .v (.string rg), .v (.int .i64 mn), .v (.int .i64 mx),d]) H:=
 by cases x;exact UX s _ ks (by simp) hd h0 hq
theorem QU (O:Rdr→Out (Rdr×Cond)) (h1:S af=cb) (h2:S aM=mN) (h3:S ai=fN f) (h4:S dA=z7 a0 (enc (X:=Cond)) f (Pp O)) (h5:S aF=kK f) (h6:S bE=tr):
 fV jB jv S (a1 B) (enc (X:=Pat)) f (NA O):=by
 rintro b s lab hf
 have hf: (tokenE O s lab).fine f:=hf
 have e:=tokenE.eq_1 O s lab
 simp only[yB,dx,ir,Out.bind_map,Out.map_map,Out.bind_bind,Out.map_bind] at e
 simp[jB,jv,h1,h2,h3,h4,h5,h6, -Bool.forall_bool, -Bool.exists_bool]
 repeat' first
  | refine lF hf e fun q e=> ?_
  | refine Fx hf e fun q e=> ?_
  | refine oO hf e fun q e=> ?_
  | refine Fy hf e fun q e=> ?_
  | refine By hf e fun q e=> ?_
  | ((refine⟨fun hc=> ?_,fun hc=> ?_⟩ <;> first | rw[if_pos hc] at e | rw[if_neg hc] at e | rw[if_neg (by simp[hc])] at e) <;> try simp only[Out.bind_ok,Out.bind_err,Out.map_ok,Out.map_err,Out.bind_map,Out.bind_bind,Out.map_bind,Out.map_map] at e)
  | exact UX _ [] [] (.nil _) (.nil _) (by simp) e
  | exact UW _ _ [] (.nil _) (by simp) e
  | exact iC _ _ (by simp) (by simp) e
  | intro _
theorem SE (A:Rdr→Bool→Out (Rdr×Pat)) (O:Rdr→Out (Rdr×Cond)) (h1:S af=cb) (h2:S av=mP f) (h3:S ai=fN f) (h4:S dX=E5 f O) (h5:S dg=Fa f A):
 fV kB jY S a0 (enc (X:=Pat)) f (Qv A O):=by
 rintro b s ⟨⟩ hf
 have hf: (itemE A O s).fine f:=hf
 have e:=itemE.eq_1 A O s
 simp only[AL,dx,ir,Out.bind_map,Out.map_map,Out.bind_bind,Out.map_bind] at e
 simp[kB,jY,h1,h2,h3,h4,h5, -Bool.forall_bool, -Bool.exists_bool]
 repeat' first
  | refine lF hf e fun q e=> ?_
  | refine Fx hf e fun q e=> ?_
  | refine oO hf e fun q e=> ?_
  | refine Fy hf e fun q e=> ?_
  | refine By hf e fun q e=> ?_
  | ((refine⟨fun hc=> ?_,fun hc=> ?_⟩ <;> first | rw[if_pos hc] at e | rw[if_neg hc] at e | rw[if_neg (by simp[hc])] at e) <;> try simp only[Out.bind_ok,Out.bind_err,Out.map_ok,Out.map_err,Out.bind_map,Out.bind_bind,Out.map_bind,Out.map_map] at e)
  | exact UX _ [] [] (.nil _) (.nil _) (by simp) e
  | exact UW _ _ [] (.nil _) (by simp) e
  | exact iC _ _ (by simp) (by simp) e
  | intro _
theorem Wq (A:Rdr→Bool→Out (Rdr×Pat)) (O:Rdr→Out (Rdr×Cond)) (hp:S dW=Bd f) (h1:S af=cb) (h2:S fJ=J6 f A O) (h3:S bZ=sL f) (h4:S ai=fN f) (h5:S aM=mN):
 fV lp la S a0 (enc (X:=Pat)) f (VO A O):=by
 rintro b s ⟨⟩ hf
 have hf: (repE A O s).fine f:=hf
 have e:=repE.eq_1 A O s
 simp[lp,la,h1,h2,h3,h4,h5, -Bool.forall_bool, -Bool.exists_bool]
 intro b2
 refine lF hf e fun r e=> ?_
 intro b3
 refine sC (X:=Nat×Rdr×Pat) [0,2,3] [2] [] [] [] [] (fun z=> repE A O s=oL z.1 z.2.1 z.2.2) (fun _=> []) (fun z=> [(0, .box b (dw z.2.1)),(3, .box b3 (enc z.2.2).cells)]) (fun z=> z.1) (500,r.1,r.2) [0,3] (fun _=> rfl) (by decide) (by decide) e (by simp) (by simp) ?_
 clear e
 rintro⟨k,s1,x⟩ e
 simp only at e
 obtain _ | k:=k
 ·rw[e,oL] at hf;exact hf.elim
 rw[oL,Dt] at e
 simp only[Cr,dx,ir,Out.bind_map,Out.map_map,Out.bind_bind,Out.map_bind] at e
 simp[h1,h3,h4,h5,hp, -Bool.forall_bool, -Bool.exists_bool]
 repeat' first
  | refine lF hf e fun q e=> ?_
  | refine Fx hf e fun q e=> ?_
  | refine oO hf e fun q e=> ?_
  | refine Fy hf e fun q e=> ?_
  | refine By hf e fun q e=> ?_
  | ((refine⟨fun hc=> ?_,fun hc=> ?_⟩ <;> first | rw[if_pos hc] at e | rw[if_neg hc] at e | rw[if_neg (by simp[hc])] at e) <;> try simp only[Out.bind_ok,Out.bind_err,Out.map_ok,Out.map_err,Out.bind_map,Out.bind_bind,Out.map_bind,Out.map_map] at e)
  | (refine⟨k,_,_,e,⟨.inl ⟨rfl,rfl,rfl,rfl,rfl⟩,?_⟩,Nat.lt_succ_self _⟩;simp[Cond0,E0];done)
  | exact iC _ _ (by simp) (by simp) e
  | (rw[e] at hf;exact hf)
  | intro _
theorem Wp (A:Rdr→Bool→Out (Rdr×Pat)) (O:Rdr→Out (Rdr×Cond)) (h1:S eE=Bb) (h2:S eK=Og f A O) (h3:S dZ=qj):
 fV ln k9 S (a1 Bool) (enc (X:=Pat)) f (VN A O):=by
 rintro b s i hf
 have hf: (seqE A O s i).fine f:=hf
 have e:=seqE.eq_1 A O s i
 simp[ln,k9,h1,h2,h3, -Bool.forall_bool, -Bool.exists_bool]
 intro b2
 refine lF hf e fun r e=> ?_
 intro v0
 refine jL (X:=Nat×Rdr×Value×List Pat) [0,1,4] [4] (fun z=> seqE A O s i=((lC A O i z.1 z.2.1 z.2.2.2).map fun q=> (q.1,vT 4 q.2))∧z.2.2.2.length+z.1≤501) (fun z=> [(5, .own 8 z.2.2.1)]) (fun z=> [(0, .box b (dw z.2.1)),(8, .row z.2.2.1 aj 13 (z.2.2.2.map enc))]) (fun z=> z.1) (500,r.1,v0, [r.2]) ⟨e,by simp⟩ (by simp) (by simp) ?_
 clear e
 rintro⟨k,s1,v,l⟩ ⟨e,hlen⟩
 simp only at e hlen
 obtain _ | k:=k
 ·rw[e,lC] at hf;exact hf.elim
 rw[lC,Out.bind_map] at e
 simp[h1]
 refine oO hf e fun w e=> ?_
 simp[-Bool.forall_bool, -Bool.exists_bool,h2,h3]
 refine⟨fun hw=> ?_,fun hw=> ?_⟩
 ·rw[if_pos hw,Out.bind_map] at e
  exact lF hf e fun r2 e=> ⟨by omega,by omega,fun v'=> ⟨k,r2.1,v',l++ [r2.2],⟨e,by simp;omega⟩,⟨rfl, .inl ⟨rfl,rfl,rfl,rfl,rfl⟩, .inl ⟨rfl,by simp⟩⟩,by omega⟩⟩
 ·rw[if_neg (by simp[hw]),Out.map_ok] at e
  exact iC s1 (vT 4 l) (by simp) (by simp) e
theorem Wv (A:Rdr→Bool→Out (Rdr×Pat)) (O:Rdr→Out (Rdr×Cond)) (h1:S af=cb) (h2:S eJ=Of f A O) (h3:S dZ=qj):
 fV lz li S (a1 Bool) (enc (X:=Pat)) f (VT (altE A O)):=by
 rintro b s i hf
 have hf: (altE A O s i).fine f:=hf
 have e:=altE.eq_1 A O s i
 simp[lz,li,h1,h2,h3, -Bool.forall_bool, -Bool.exists_bool]
 intro b2
 refine lF hf e fun r e=> ?_
 intro v0
 refine jL (X:=Nat×Rdr×Value×List Pat) [0,1,4] [4] (fun z=> altE A O s i=((lP A O i z.1 z.2.1 z.2.2.2).map fun q=> (q.1,vT 5 q.2))∧z.2.2.2.length+z.1≤501) (fun z=> [(5, .own 9 z.2.2.1)]) (fun z=> [(0, .box b (dw z.2.1)),(9, .row z.2.2.1 aj 13 (z.2.2.2.map enc))]) (fun z=> z.1) (500,r.1,v0, [r.2]) ⟨e,by simp⟩ (by simp) (by simp) ?_
 clear e
 rintro⟨k,s1,v,l⟩ ⟨e,hlen⟩
 simp only at e hlen
 obtain _ | k:=k
 ·rw[e,lP] at hf;exact hf.elim
 rw[lP,Out.bind_map] at e
 simp[h1]
 refine oO hf e fun w e=> ?_
 simp[-Bool.forall_bool, -Bool.exists_bool,h2,h3]
 refine⟨fun hw=> ?_,fun hw=> ?_⟩
 ·rw[if_pos hw,Out.bind_map] at e
  exact lF hf e fun r2 e=> ⟨by omega,by omega,fun v'=> ⟨k,r2.1,v',l++ [r2.2],⟨e,by simp;omega⟩,⟨rfl, .inl ⟨rfl,rfl,rfl,rfl,rfl⟩, .inl ⟨rfl,by simp⟩⟩,by omega⟩⟩
 ·rw[if_neg (by simp[hw]),Out.map_ok] at e
  exact iC w.1 (vT 5 l) (by simp) (by simp) e
end Go.Gv

namespace Go.Gv
open Cod (enc dec)
variable {S S0:Nat→Spc} {f:Int×Int}
theorem MH {H:ae} {o mn mx:Int} {a b n g v:B} {fo:Bool} {da dk:D} (al:List B) (ks:List Glob) (ha:FrzTo H da (enc al)) (hd:FrzTo H dk (enc ks)):
 FrzTo H (.agg [.v (.int .i64 o), .v (.string a), .v (.string b), .v (.string n), .v (.string g), .v (.string v), .v (.bool fo), .v (.int .i64 mn), .v (.int .i64 mx),da,dk]) (enc (⟨o,a,b,n,g,v,fo,mn,mx,al,ks⟩:Glob)):=by
 rw[AG]
 refine .agg rfl fun k x y hx hy=> ?_
 rcases k with _ | _ | _ | _ | _ | _ | _ | _ | _ | _ | _ | k
 all_goals first
  | (cases hx;cases hy;exact .same _)
  | (cases hx;cases hy;exact ha)
  | (cases hx;cases hy;exact hd)
  | simp at hx
theorem GL {b:Nat} {post:Rdr→Glob→Prop} {H:ae} {o mn mx:Int} {a b' n g v:B} {fo:Bool} {da dk:D} (s:Rdr) (al:List B) (ks:List Glob) (ha:FrzTo (fun i=> if i=0 then none else H i) da (enc al)) (hd:FrzTo (fun i=> if i=0 then none else H i) dk (enc ks))
 (h0:H 0=some (.box b (dw s))) (hq:post s ⟨o,a,b',n,g,v,fo,mn,mx,al,ks⟩):
 AR enc b post (.agg [.v (.int .i64 o), .v (.string a), .v (.string b'), .v (.string n), .v (.string g), .v (.string v), .v (.bool fo), .v (.int .i64 mn), .v (.int .i64 mx),da,dk]) H:=iC s _ (MH al ks ha hd) h0 hq
abbrev s_globs:Spc:=cY (a2 Int (List Glob)) (fun _=> True) (enc (X:=Glob)) fun x y=> y=UO x.1 x.2
theorem qbF {op:Int} {l:List Glob} (h:l.length≠1):UO op l=⟨op,E0,E0,E0,E0,E0,false,0,0, [],l⟩:=by
 match l,h with
 | [],_=> rfl
 | [x],h=> exact absurd rfl h
 | x::y::l,_=> rfl
theorem Wo:Walk qS qt S (a2 Int (List Glob)) (fun _=> True) (enc (X:=Glob)) fun x y=> y=UO x.1 x.2:=by
 rintro⟨op,l⟩ -
 simp[qS,qt]
 refine fun b _=> ⟨fun h=> ⟨by omega,fun a ha=> ?_⟩,fun h=> ?_⟩
 ·have e:l= [a]:=by
   match l,h,ha with
   | [x],_,ha=> simp at ha;rw[ha]
  exact gj a (by simp) (by rw[e];rfl)
 ·exact gj (⟨op,E0,E0,E0,E0,E0,false,0,0, [],l⟩:Glob) (MH [] l (.nil _) (by simp)) (qbF (by omega)).symm
abbrev s_function:Spc:=cY (a1 B) (fun _=> True) (enc (X:=Int)) fun x y=> y=l9 x
theorem AY:Walk nf mS S (a1 B) (fun _=> True) (enc (X:=Int)) fun x y=> y=l9 x:=by
 rintro x -
 simp[nf,mS]
 refine⟨fun h=> by subst h;rfl,fun n1=> ⟨fun h=> by subst h;rfl,fun n2=> ⟨fun h=> by subst h;rfl,fun n3=> ⟨fun h=> by subst h;rfl,fun n4=> ⟨fun h=> by subst h;rfl,fun n5=> ⟨fun h=> by subst h;rfl,fun n6=> ⟨fun h=> by subst h;rfl,fun n7=> ⟨fun h=> by subst h;rfl,fun n8=> ?_⟩⟩⟩⟩⟩⟩⟩⟩
 have g: ∀ {y:B},¬x=y→ ¬y=x:=fun h e=> h e.symm
 simp[l9,funcsL,List.find?,g n1,g n2,g n3,g n4,g n5,g n6,g n7,g n8]
@[simp] abbrev Qw (N:Rdr→Out (Rdr×Glob)) (s:Rdr) (_:Unit):Out (Rdr×Glob):=N s
abbrev tz (f:Int×Int) (N:Rdr→Out (Rdr×Glob)):Spc:=z7 a0 (enc (X:=Glob)) f (Qw N)
@[simp] abbrev Qx (N:Rdr→Out (Rdr×Glob)) (s:Rdr) (_:Unit):Out (Rdr×Glob):=gandE N s
abbrev J7 (f:Int×Int) (N:Rdr→Out (Rdr×Glob)):Spc:=z7 a0 (enc (X:=Glob)) f (Qx N)
@[simp] abbrev VQ (N:Rdr→Out (Rdr×Glob)) (s:Rdr) (_:Unit):Out (Rdr×Glob):=gorE N s
abbrev E6 (f:Int×Int) (N:Rdr→Out (Rdr×Glob)):Spc:=z7 a0 (enc (X:=Glob)) f (VQ N)
@[simp] abbrev ND (s:Rdr) (_:Unit):Out (Rdr×Glob):=gatomsE s
abbrev E7 (f:Int×Int):Spc:=z7 a0 (enc (X:=Glob)) f ND
theorem SG (N:Rdr→Out (Rdr×Glob)) (h1:S af=cb) (h2:S bN=tz f N) (h3:S fZ=s_globs):
 fV kD j0 S a0 (enc (X:=Glob)) f (Qx N):=by
 rintro b s ⟨⟩ hf
 have hf: (gandE N s).fine f:=hf
 have e:=gandE.eq_1 N s
 simp[kD,j0,h1,h2,h3, -Bool.forall_bool, -Bool.exists_bool]
 intro b2
 refine lF hf e fun r e=> ?_
 intro v0
 refine jL (X:=Nat×Rdr×Value×List Glob) [0,2] [2] (fun z=> gandE N s=((jo N z.1 z.2.1 z.2.2.2).map fun q=> (q.1,UO 12 q.2))∧z.2.2.2.length+z.1≤501) (fun z=> [(3, .own 6 z.2.2.1)]) (fun z=> [(0, .box b (dw z.2.1)),(6, .row z.2.2.1 au 11 (z.2.2.2.map enc))]) (fun z=> z.1) (500,r.1,v0, [r.2]) ⟨e,by simp⟩ (by simp) (by simp) ?_
 clear e
 rintro⟨k,s1,v,l⟩ ⟨e,hlen⟩
 simp only at e hlen
 obtain _ | k:=k
 ·rw[e,jo] at hf;exact hf.elim
 rw[jo,Out.bind_map] at e
 simp[h1]
 refine oO hf e fun w e=> ?_
 simp[-Bool.forall_bool, -Bool.exists_bool,h2,h3]
 refine⟨fun hw=> ?_,fun hw=> ?_⟩
 ·rw[if_pos hw,Out.bind_map] at e
  exact lF hf e fun r2 e=> ⟨by omega,by omega,fun v'=> ⟨k,r2.1,v',l++ [r2.2],⟨e,by simp;omega⟩,⟨rfl, .inl ⟨rfl,rfl,rfl,rfl,rfl⟩, .inl ⟨rfl,by simp⟩⟩,by omega⟩⟩
 ·rw[if_neg (by simp[hw]),Out.map_ok] at e
  exact iC w.1 (UO 12 l) (by simp) (by simp) e
theorem Ws (N:Rdr→Out (Rdr×Glob)) (h1:S af=cb) (h2:S ez=J7 f N) (h3:S fZ=s_globs):
 fV lu ld S a0 (enc (X:=Glob)) f (VQ N):=by
 rintro b s ⟨⟩ hf
 have hf: (gorE N s).fine f:=hf
 have e:=gorE.eq_1 N s
 simp[lu,ld,h1,h2,h3, -Bool.forall_bool, -Bool.exists_bool]
 intro b2
 refine lF hf e fun r e=> ?_
 intro v0
 refine jL (X:=Nat×Rdr×Value×List Glob) [0,2] [2] (fun z=> gorE N s=((lG N z.1 z.2.1 z.2.2.2).map fun q=> (q.1,UO 13 q.2))∧z.2.2.2.length+z.1≤501) (fun z=> [(3, .own 6 z.2.2.1)]) (fun z=> [(0, .box b (dw z.2.1)),(6, .row z.2.2.1 au 11 (z.2.2.2.map enc))]) (fun z=> z.1) (500,r.1,v0, [r.2]) ⟨e,by simp⟩ (by simp) (by simp) ?_
 clear e
 rintro⟨k,s1,v,l⟩ ⟨e,hlen⟩
 simp only at e hlen
 obtain _ | k:=k
 ·rw[e,lG] at hf;exact hf.elim
 rw[lG,Out.bind_map] at e
 simp[h1]
 refine oO hf e fun w e=> ?_
 simp[-Bool.forall_bool, -Bool.exists_bool,h2,h3]
 refine⟨fun hw=> ?_,fun hw=> ?_⟩
 ·rw[if_pos hw,Out.bind_map] at e
  exact lF hf e fun r2 e=> ⟨by omega,by omega,fun v'=> ⟨k,r2.1,v',l++ [r2.2],⟨e,by simp;omega⟩,⟨rfl, .inl ⟨rfl,rfl,rfl,rfl,rfl⟩, .inl ⟨rfl,by simp⟩⟩,by omega⟩⟩
 ·rw[if_neg (by simp[hw]),Out.map_ok] at e
  exact iC w.1 (UO 13 l) (by simp) (by simp) e
theorem SF (N:Rdr→Out (Rdr×Glob)) (h1:S af=cb) (h2:S bN=tz f N) (h3:S ai=fN f) (h4:S df=E6 f N) (h5:S fc=E7 f):
 fV kC jZ S a0 (enc (X:=Glob)) f (Qw (gnotE N (gorE N))):=by
 rintro b s ⟨⟩ hf
 have hf: (gnotE N (gorE N) s).fine f:=hf
 have e:=gnotE.eq_1 N (gorE N) s
 simp only[dx,ir,Out.bind_map,Out.map_map,Out.bind_bind,Out.map_bind] at e
 simp[kC,jZ,h1,h2,h3,h4,h5, -Bool.forall_bool, -Bool.exists_bool]
 repeat' first
  | refine lF hf e fun q e=> ?_
  | refine Fx hf e fun q e=> ?_
  | refine oO hf e fun q e=> ?_
  | refine Fy hf e fun q e=> ?_
  | refine By hf e fun q e=> ?_
  | ((refine⟨fun hc=> ?_,fun hc=> ?_⟩ <;> first | rw[if_pos hc] at e | rw[if_neg hc] at e | rw[if_neg (by simp[hc])] at e) <;> try simp only[Out.bind_ok,Out.bind_err,Out.map_ok,Out.map_err,Out.bind_map,Out.bind_bind,Out.map_bind,Out.map_map] at e)
  | exact GL _ [] [] (.nil _) (.nil _) (by simp) e
  | exact GL _ [] [_] (.nil _) (by simp) (by simp) e
  | exact iC _ _ (by simp) (by simp) e
  | (rw[e] at hf;exact hf)
  | intro _
def aNil:lB (Int×B) where
 dec
  | [.agg [.v (.int .i64 op), .v (.string a), .v (.string b), .v (.string c), .v (.string d), .v (.string e), .v (.bool g), .v (.int .i64 m), .v (.int .i64 n), .v (.slice none 0 0), .v (.slice none 0 0)]]=> if b=E0∧c=E0∧d=E0∧e=E0∧g=false∧m=0∧n=0 then some (op,a) else none
  | _=> none
 view z:= [.agg [.v (.int .i64 z.1), .v (.string z.2), .v (.string E0), .v (.string E0), .v (.string E0), .v (.string E0), .v (.bool false), .v (.int .i64 0), .v (.int .i64 0), .v (.slice none 0 0), .v (.slice none 0 0)]]
 le ds z h:=by
  split at h
  ·split at h
   ·rename_i hh
    obtain⟨rfl,rfl,rfl,rfl,rfl,rfl,rfl⟩:=hh
    cases h
    exact .cons (.same _) .nil
   ·cases h
  ·cases h
@[simp] theorem qch (op:Int) (a:B):aNil.dec [.agg [.v (.int .i64 op), .v (.string a), .v (.string ⟨#[]⟩), .v (.string ⟨#[]⟩), .v (.string ⟨#[]⟩), .v (.string ⟨#[]⟩), .v (.bool false), .v (.int .i64 0), .v (.int .i64 0), .v (.slice none 0 0), .v (.slice none 0 0)]]=some (op,a):=id rfl
@[simp] theorem qaF (z:Int×B):aNil.view z= [.agg [.v (.int .i64 z.1), .v (.string z.2), .v (.string ⟨#[]⟩), .v (.string ⟨#[]⟩), .v (.string ⟨#[]⟩), .v (.string ⟨#[]⟩), .v (.bool false), .v (.int .i64 0), .v (.int .i64 0), .v (.slice none 0 0), .v (.slice none 0 0)]]:=id rfl
@[simp] abbrev Qz (s:Rdr) (z:Int×B):Out (Rdr×Glob):=argsE s z.1 z.2
abbrev J9 (f:Int×Int):Spc:=z7 aNil (enc (X:=Glob)) f Qz
theorem QW (h1:S af=cb) (h2:S av=mP f) (h3:S ai=fN f) (h4:S aF=kK f) (h5:S bE=tr) (h6:S bt=s_function) (h7:S dL=J9 f):
 fV jC jw S a0 (enc (X:=Glob)) f (ND):=by
 rintro b s ⟨⟩ hf
 have hf: (gatomsE s).fine f:=hf
 have e:=gatomsE.eq_1 s
 simp only[GE,dx,ir,Out.bind_map,Out.map_map,Out.bind_bind,Out.map_bind] at e
 simp[jC,jw,h1,h2,h3,h4,h5,h6,h7, -Bool.forall_bool, -Bool.exists_bool]
 repeat' first
  | refine lF hf e fun q e=> ?_
  | refine Fx hf e fun q e=> ?_
  | refine oO hf e fun q e=> ?_
  | refine Fy hf e fun q e=> ?_
  | refine By hf e fun q e=> ?_
  | ((refine⟨fun hc=> ?_,fun hc=> ?_⟩ <;> first | rw[if_pos hc] at e | rw[if_neg hc] at e | rw[if_neg (by simp[hc])] at e) <;> try simp only[Out.bind_ok,Out.bind_err,Out.map_ok,Out.map_err,Out.bind_map,Out.bind_bind,Out.map_bind,Out.map_map] at e)
  | exact GL _ [] [] (.nil _) (.nil _) (by simp) e
  | exact GL _ [] [_] (.nil _) (by simp) (by simp) e
  | exact iC _ _ (by simp) (by simp) e
  | (rw[e] at hf;exact hf)
  | intro _
theorem HV (h1:S af=cb) (h2:S ai=fN f) (h3:S aF=kK f) (h4:S dY=E8 f) (h5:S cq=E9 f) (h6:S dI=Bj f):
 fV gF gB S aNil (enc (X:=Glob)) f Qz:=by
 rintro b s ⟨op,a⟩ hf
 have hf: (argsE s op a).fine f:=hf
 have e:=argsE.eq_1 s op a
 simp[gF,gB,h1,h2,h3,h4,h5,h6, -Bool.forall_bool, -Bool.exists_bool]
 intro b3 b4
 refine⟨fun hc=> ?_,fun hc=> ?_⟩
 ·rw[if_pos hc] at e
  exact GL s [] [] (.nil _) (.nil _) (by simp) e
 rw[if_neg hc] at e
 refine⟨fun hc2=> ?_,fun hc2=> ?_⟩
 ·rw[if_pos hc2] at e
  repeat' first
   | refine lF hf e fun q e=> ?_
   | refine Fx hf e fun q e=> ?_
   | refine oO hf e fun q e=> ?_
   | refine Fy hf e fun q e=> ?_
   | refine By hf e fun q e=> ?_
   | ((refine⟨fun hc=> ?_,fun hc=> ?_⟩ <;> first | rw[if_pos hc] at e | rw[if_neg hc] at e | rw[if_neg (by simp[hc])] at e) <;> try simp only[Out.bind_ok,Out.bind_err,Out.map_ok,Out.map_err,Out.bind_map,Out.bind_bind,Out.map_bind,Out.map_map] at e)
   | exact GL _ [] [] (.nil _) (.nil _) (by simp) e
   | exact GL _ [] [_] (.nil _) (by simp) (by simp) e
   | exact iC _ _ (by simp) (by simp) e
   | (rw[e] at hf;exact hf)
   | intro _
 rw[if_neg hc2] at e
 refine lF hf e fun q e=> ?_
 refine zB (X:=Rdr×Glob) [4] [4] [59] [] (fun z=> argsE s op a= .ok (z.1,z.2)) (fun _=> [(3, .bptr 3 b3 0)]) (fun z=> [(0, .box b (dw z.1)),(3, .box b3 (enc z.2).cells)]) [0,3] (fun _=> rfl) (by decide) ?_ ?_
 ·simp[h1,h2,h3,h4,h5,h6, -Bool.forall_bool, -Bool.exists_bool]
  refine⟨fun g4=> ?_,fun g4=> ?_⟩
  ·rw[if_pos g4] at e
   repeat' first
    | refine lF hf e fun q e=> ?_
    | refine Fx hf e fun q e=> ?_
    | refine oO hf e fun q e=> ?_
    | refine Fy hf e fun q e=> ?_
    | refine By hf e fun q e=> ?_
    | ((refine⟨fun hc=> ?_,fun hc=> ?_⟩ <;> first | rw[if_pos hc] at e | rw[if_neg hc] at e | rw[if_neg (by simp[hc])] at e) <;> try simp only[Out.bind_ok,Out.bind_err,Out.map_ok,Out.map_err,Out.bind_map,Out.bind_bind,Out.map_bind,Out.map_map] at e)
    | exact⟨_,_,e, .inl ⟨rfl,rfl,rfl,rfl,rfl⟩, .inl ⟨rfl,rfl,rfl,rfl,rfl,rfl,rfl,rfl,rfl,rfl,rfl⟩⟩
    | intro _
  rw[if_neg g4] at e
  refine⟨fun g5=> ?_,fun g5=> ?_⟩
  ·rw[if_pos (.inl g5)] at e
   refine⟨fun _=> ?_,fun h=> absurd g5 h⟩
   repeat' first
    | refine lF hf e fun q e=> ?_
    | refine Fx hf e fun q e=> ?_
    | refine oO hf e fun q e=> ?_
    | refine Fy hf e fun q e=> ?_
    | refine By hf e fun q e=> ?_
    | ((refine⟨fun hc=> ?_,fun hc=> ?_⟩ <;> first | rw[if_pos hc] at e | rw[if_neg hc] at e | rw[if_neg (by simp[hc])] at e) <;> try simp only[Out.bind_ok,Out.bind_err,Out.map_ok,Out.map_err,Out.bind_map,Out.bind_bind,Out.map_bind,Out.map_map] at e)
    | exact⟨_,_,e, .inl ⟨rfl,rfl,rfl,rfl,rfl⟩, .inl ⟨rfl,rfl,rfl,rfl,rfl,rfl,rfl,rfl,rfl,rfl,rfl⟩⟩
    | intro _
  refine⟨fun g9=> ?_,fun g9=> ?_⟩
  ·rw[if_pos (.inr g9)] at e
   repeat' first
    | refine lF hf e fun q e=> ?_
    | refine Fx hf e fun q e=> ?_
    | refine oO hf e fun q e=> ?_
    | refine Fy hf e fun q e=> ?_
    | refine By hf e fun q e=> ?_
    | ((refine⟨fun hc=> ?_,fun hc=> ?_⟩ <;> first | rw[if_pos hc] at e | rw[if_neg hc] at e | rw[if_neg (by simp[hc])] at e) <;> try simp only[Out.bind_ok,Out.bind_err,Out.map_ok,Out.map_err,Out.bind_map,Out.bind_bind,Out.map_bind,Out.map_map] at e)
    | exact⟨_,_,e, .inl ⟨rfl,rfl,rfl,rfl,rfl⟩, .inl ⟨rfl,rfl,rfl,rfl,rfl,rfl,rfl,rfl,rfl,rfl,rfl⟩⟩
    | intro _
  rw[if_neg (by omega)] at e
  refine⟨fun g8=> ?_,fun g8=> ?_⟩
  rotate_left
  ·rw[if_neg g8] at e
   exact⟨_,_,e, .inl ⟨rfl,rfl,rfl,rfl,rfl⟩, .inl ⟨rfl,rfl,rfl,rfl,rfl,rfl,rfl,rfl,rfl,rfl,rfl⟩⟩
  rw[if_pos g8] at e
  refine sC (X:=Nat×Rdr×Value×List B) [0,3,4] [4] [] [] [] [] (fun z=> argsE s op a=((mr z.1 z.2.1 z.2.2.2).map fun l=> (l.1,⟨op,a,q.2,E0,E0,E0,false,0,0,l.2, []⟩))∧z.2.2.2.length+z.1≤500) (fun _=> []) (fun z=> [(0, .box b (dw z.2.1)),(3, .box b3 [.v (.int .i64 op), .v (.string a), .v (.string q.2), .v (.string ⟨#[]⟩), .v (.string ⟨#[]⟩), .v (.string ⟨#[]⟩), .v (.bool false), .v (.int .i64 0), .v (.int .i64 0), .own 59 z.2.2.1, .v (.slice none 0 0)]),(59, .row z.2.2.1 az 1 (z.2.2.2.map enc))]) (fun z=> z.1) (500,q.1, .slice none 0 0, []) [0,3,59] (fun _=> rfl) (by decide) (by decide) ⟨e,by simp⟩ ?_ ?_ ?_
  ·simp
  ·simp[isNilRow]
   exact .nilown 59
  clear e
  rintro⟨k,s1,v,l⟩ ⟨e,hlen⟩
  simp only at e hlen
  obtain _ | k:=k
  ·rw[e,mr] at hf;exact hf.elim
  rw[mr,Out.bind_map] at e
  simp[h1,h3, -Bool.forall_bool, -Bool.exists_bool]
  refine oO hf e fun w e=> ⟨fun hw=> ?_,fun hw=> ?_⟩
  ·rw[if_pos hw,Out.bind_map] at e
   refine lF hf e fun r2 e=> ?_
   exact⟨by omega,by omega,fun v'=> ⟨k,r2.1,v',l++ [r2.2],⟨e,by simp;omega⟩,⟨.inl ⟨rfl,rfl,rfl,rfl,rfl⟩, .inl (.inl rfl), .inl (.inl (by simp))⟩,by omega⟩⟩
  ·rw[if_neg (by simp[hw]),Out.map_ok] at e
   exact⟨w.1,⟨op,a,q.2,E0,E0,E0,false,0,0,l, []⟩,e, .inl ⟨rfl,rfl,rfl,rfl,rfl⟩, .inl ⟨rfl,rfl,rfl,rfl,rfl,rfl,rfl,rfl,rfl,OY az (by simp[Rz]),rfl⟩⟩
 ·rintro⟨s9,g⟩ e
  simp only at e
  simp
  exact iC s9 g (by simp) (by simp) e
end Go.Gv

namespace Go.Gv
open Go.Proofs
-- query_reader_query while id=0: live [0:r, 2:, 3:q] changed [] res [0, 2, 3, 55]
def i6:CC:=oX [oB 2 (.alloc jO [oi,oi,oe,oe,oe,oe,ob,on,oe,oe,oi,oi,on,oi,oe,oe,oe,oe,oe,ob,oi,oi,on,on,on,oi])] [0,2] [0,2,55] (oX [oA 5 0,oZ 6 a8 [oT 5]] [0,2] [0,2,55] (oX [oA 7 0,oZ 8 dg [oT 7,.const ob],oB 9 (.build [oi,oi,oe,oe,oe,oe,ob,on,oe,oe,oi,oi,on,oi,oe,oe,oe,oe,oe,ob,oi,oi,on,on,on,oi] [(0,13,oT 8)]),
 oB 3 (.alloc jO [oi,oi,oe,oe,oe,oe,ob,on,oe,oe,oi,oi,on,oi,oe,oe,oe,oe,oe,ob,oi,oi,on,on,on,oi]),oF 26 3 9] [0,2,3] [0,2,3,55] (mu 3 (oX [oA 10 0,oZ 11 af [oT 10,oS ⟨#[58,58]⟩]] [0,2,3,11] [0,2,3,55] (.ite (oT 11) (.reg [oA 12 0,oZ 13 df [oT 12],oE 14 13 3,oF 11 14 13]) (.skip))) (.keep [0,2,3] [0,2,3,55] (mu 5 (.block 0 (.loop 1 (.seq (oX [
 oA 15 0,oZ 16 aM [oT 15,oS ⟨#[33]⟩],oA 17 16,oI 18 17 (.mv (oT 0)),oI 19 17 (.call b5 []),oI 20 17 (.call br [oT 18,oT 19]),oB 21 (.pick (oT 17) (.const (.bool true)) (oT 20))] [0,2,3,21] [0,2,3,55] (.ite (oT 21) (.skip) (.exit 0))) (.keep [0,2,3] [0,2,3,55] (.block 1 (oX [oA 22 0,oZ 23 af [oT 22,oS ⟨#[33]⟩],
 oB 24 (.build [oi,ob,oe] [(1,1,oT 23)]),oB 4 (.alloc gc [oi,ob,oe]),oF 3 4 24] [0,2,3,4] [0,2,3,4,55] (.seq (.seq (.regd [oZ 25 b5 [],oA 26 0,oG 27 26,oE 28 2 27,oE 29 1 28,oC 30 1 29] [oZ 31 bX [oT 25,oT 30],oE 32 0 4,.op none none (.store (some 4) 1 (oT 32) (oT 31))]) (.keep [0,2,3,4] [0,2,3,4,55] (oX [oA 33 0,oG 34 33,oE 35 2 34,
 oE 36 0 35,oC 37 1 36,oB 38 (.eql true false [.int] (oT 37) (oN 2)),oA 39 38,oI 40 39 (.faddr 0 (oT 4)),oI 41 39 (.load false 1 (oT 40)),oI 42 39 (.cmp .lss (oT 41) (oN 1)),oB 43 (.pick (oT 39) (.const (.bool true)) (oT 42))] [0,2,3,4,43] [0,2,3,4,55] (.ite (oT 43) (.reg [oA 44 0,oZ 45 bk [oT 44]]) (.skip))))) (.keep [0,2,3,4] [0,2,3,4,55] (oX [oA 46 0,
 oZ 47 a8 [oT 46]] [0,2,3,4] [0,2,3,4,55] (oX [oA 48 0,oZ 49 av [oT 48],oE 50 2 4,oF 1 50 49] [0,2,3,4] [0,2,3,4,55] (.reg [oE 51 24 3,oC 52 1 51,oD 53 3 4,oB 54 (.bslice gc 3 [oT 53]),oB 55 (.append (some 55) gc 3 32 (oT 52) (oT 54)),oE 56 24 3,oF 1 56 55]))))))))))) (.keep [0,2,3] [0,2,3,55] (.seq (oX [oA 57 0,
 oB 58 (.bslice az 1 [oS ⟨#[115,116,114,97,116,101,103,121]⟩]),oZ 59 br [oT 57,oT 58]] [0,2,3,59] [0,2,3,55] (.ite (oT 59) (oX [oA 60 0,oZ 61 a8 [oT 60]] [0,2,3] [0,2,3,55] (.seq (oX [oA 62 0,oZ 63 bY [],oZ 64 br [oT 62,oT 63],oB 65 (.not (oT 64))] [0,2,3,65] [0,2,3,55] (.ite (oT 65) (.reg [oA 66 0,
 oZ 67 bk [oT 66]]) (.skip))) (.keep [0,2,3] [0,2,3,55] (.reg [oZ 68 bY [],oA 69 0,oZ 70 av [oT 69],oZ 71 bX [oT 68,oT 70],oE 72 25 3,oF 1 72 71])))) (.skip))) (.keep [0,2,3] [0,2,3,55] (.seq (oX [oA 73 0,oG 74 73,oE 75 2 74,oE 76 0 75,oC 77 1 76,
 oB 78 (.eql true false [.int] (oT 77) (oN 0))] [0,2,3,78] [0,2,3,55] (.ite (oT 78) (.reg [oA 79 0,oZ 80 bk [oT 79]]) (.skip))) (.keep [2,3] [0,2,3,55] (oX [oD 81 26 3,oF 26 2 81] [2] [0,2,55] (.ret))))))))))))
def iN:List aK:= [.cell 2 true 26]
def ug:List Nat:= [1055055,2032004]
theorem tW:aS Tryz.prog bR ug i6 iN 82:=aA ay (by kernel_rfl)
end Go.Gv
