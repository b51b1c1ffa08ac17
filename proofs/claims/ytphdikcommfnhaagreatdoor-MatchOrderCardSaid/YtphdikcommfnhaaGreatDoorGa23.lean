/- A part of the framework and of the walks: W140 W141 W142 W143 T34 W144 V54 C56 W145. -/
import Derived.Laws.RangeString
import Derived.Test.YtphdikcommfnhaaGreatDoorGa22
import Derived.Test.YtphdikcommfnhaaGreatDoorGa20
set_option linter.unusedSimpArgs false
set_option linter.unusedVariables false
set_option maxRecDepth 100000
set_option linter.unusedSectionVars false

namespace Go.Gv
open Cod (enc dec)
variable {S S0:Nat->Spc}
@[simp] theorem qeF (t:Tbk):Tbk.mk t.lvs t.fi t.la t.fol t.nul=t:=id rfl
abbrev yI:Spc:=U7 (a2 U64 U64) OS zp
theorem OA (fr to:U64): ∀ (l:List U64) (i:Nat),(OB fr to i l).length=l.length
 | [],_=> rfl
 | f::l,i=> by rw[OB,List.length_cons,List.length_cons,OA fr to l (i+1)]
theorem KV {fr to f:U64} : ∀ {l:List U64} {i k:Nat},l[k]?=some f->OB fr to i (l.take k) ++ (if Ra fr (i+k)=true then VL f to else f)::l.drop (k+1)=OB fr to i (l.take (k+1)) ++l.drop (k+1)
 | [],i,k,h=> by simp at h
 | g::l,i,0,h=> by
   simp at h
   subst h
   simp[OB]
 | g::l,i,k+1,h=> by
   simp at h
   have:=KV (fr:=fr) (to:=to) (i:=i+1) h
   rw[show i+1+k=i+ (k+1) by omega] at this
   simp only[List.take_succ_cons,OB,List.cons_append,List.drop_succ_cons]
   rw[this]
theorem X5:BX iX iF S (a2 U64 U64) OS zp:=by
 rintro b v v' ⟨lv,fi,la,fo,nu⟩ ⟨fr,to⟩ r hF
 unfold zp at hF
 simp only at hF
 split at hF
 ·rename_i hlen
  cases hF
  have hl: (fo.length:Int)<=9223372036854775807:=by omega
  simp[iX,iF,rG,mA,mB,oJ,hl, -Bool.forall_bool, -Bool.exists_bool]
  refine aA (X:=List U64) [0,1,2] [] fo.length (fun k x=> x=OB fr to 0 (fo.take k) ++fo.drop k) (fun x=> []) (fun x=> [(0, .box b [.own 990 v, .v (.int .u64 fi.val), .v (.int .u64 la.val), .own 991 v', .v (.bool nu)]),(990, .row v da 1 (lv.map enc)),(991, .row v' dY 1 (x.map enc))]) fo (by simp) (by simp) (by omega) (by simp) (by simp) (by simp[OB]) (by simp) (by simp) ?_ ?_
  ·rintro k x hk hx
   obtain⟨f,hf⟩: ∃f,fo[k]?=some f:=⟨_,List.getElem?_eq_getElem hk⟩
   have hll: (OB fr to 0 (fo.take k)).length=k:=by rw[OA,List.length_take];omega
   have hxl:x.length=fo.length:=by rw[hx,List.length_append,hll,List.length_drop];omega
   have hxk:x[k]?=some f:=by
    rw[hx,List.getElem?_append_right (by omega),hll,Nat.sub_self,List.getElem?_drop]
    simpa using hf
   have hdr:x.drop (k+1)=fo.drop (k+1):=by
    rw[hx,List.drop_append,hll,List.drop_drop,List.drop_eq_nil_of_le (by rw[hll];omega)]
    simp
   have htk:x.take k=OB fr to 0 (fo.take k):=by
    rw[hx,List.take_append,hll,Nat.sub_self,List.take_zero,List.append_nil,List.take_of_length_le (by rw[hll];omega)]
   have hset: ∀g,x.set k g=OB fr to 0 (fo.take k) ++g::fo.drop (k+1):=fun g=> by
    rw[List.set_eq_take_append_cons_drop,if_pos (by omega),htk,hdr]
   have hst:=KV (fr:=fr) (to:=to) (i:=0) hf
   rw[Nat.zero_add,<-hset] at hst
   have hkx:k < x.length:=by omega
   obtain⟨_,hgx⟩:=List.getElem?_eq_some_iff.1 hxk
   simp[hkx,hxk,hgx,hk,hxl, -Bool.forall_bool, -Bool.exists_bool]
   refine⟨fun hb=> ?_,fun hb=> ?_⟩
   ·rw[if_pos hb] at hst
    left
    rw[<-List.map_drop,<-List.map_append,<-hst,List.map_set]
    rfl
   ·rw[if_neg (by simp[hb])] at hst
    rw[show x.set k f=x from by rw[<-hgx];exact List.set_getElem_self _] at hst
    exact .inl hst
  ·rintro x hx
   rw[List.take_length,List.drop_length,List.append_nil] at hx
   subst hx
   simp[-Bool.forall_bool, -Bool.exists_bool]
   exact XC (er:=OS) (y:=()) v v' ⟨lv,fi,la,OB fr to 0 fo,nu⟩ (.same _) rfl rfl rfl rfl
 ·cases hF
attribute [simp] ME So
@[simp] theorem qc9 {Y Z:Type} (er:Y->D) (F:Tbk->Z->Option (Tbk×Y)) (id b:Nat) (v v':Value) (f l:Int) (n:Bool) (lv:List (List Rng)) (fo:List U64) (o:Option Z) (H:aa) (K:D->aa->Prop):
 Ki er F id b (some (.box b [.own 990 v, .v (.int .u64 f), .v (.int .u64 l), .own 991 v', .v (.bool n)])) (some (.row v da 1 (lv.map enc))) (some (.row v' dY 1 (fo.map enc))) o H K=(id≠990/\id≠991/\dP o fun z=> dP (F ⟨lv,⟨f⟩,⟨l⟩,fo,n⟩ z) fun q=> ∀w w',K (er q.2) (ah (ah (ah H 991 (some (.row w' dY 1 (q.1.fol.map enc)))) 990 (some (.row w da 1 (q.1.lvs.map enc)))) id (some (.box b [.own 990 w, .v (.int .u64 q.1.fi.val), .v (.int .u64 q.1.la.val), .own 991 w', .v (.bool q.1.nul)])))):=Yj er F id b v v' f l n lv fo o H K
abbrev so:Spc:=U7 (a2 Prt Prt) (enc (X:=Prt)) tv
theorem rT {b:Nat} {post:Tbk->Prt->Prop} {d:D} {H:aa} (v v':Value) (t:Tbk) (y:Prt) (hd:d=enc y) (h0:H 0=some (.box b (oJ v v' t))) (h1:H 990=some (mA v t.lvs)) (h2:H 991=some (mB v' t.fol)) (hq:post t y):Mf enc b post d H:=
 XC (er:=enc) (y:=y) v v' t (by rw[hd];exact .same _) h0 h1 h2 hq
theorem Rq (h1:S bM=yI):BX gM gx S (a2 Prt Prt) (enc (X:=Prt)) tv:=by
 rintro b v v' ⟨lv,fi,la,fo,nu⟩ ⟨⟨af,al,an⟩,⟨bf,bl,bn⟩⟩ r hF
 unfold tv at hF
 simp only at hF
 obtain⟨q,hl,rfl⟩:=Option.map_eq_some_iff.1 hF
 cases an <;> cases bn <;> simp[gM,gx,rG,mA,mB,oJ,h1,hl, -Bool.forall_bool, -Bool.exists_bool] <;> intro b1 w w' <;> exact rT w w' q.1 _ rfl rfl rfl rfl ⟨rfl,rfl⟩
theorem Sy {set f:U64} {l:List U64} {k:Nat} (h:l[k]?=some f) (m:U64):Xx set k (l.drop k) m=Xx set (k+1) (l.drop (k+1)) (if Ra set k=true then VL m f else m):=by
 obtain⟨h1,h2⟩:=List.getElem?_eq_some_iff.1 h
 rw[List.drop_eq_getElem_cons h1,h2,Xx]
end Go.Gv

namespace Go.Gv
open Cod (enc dec)
variable {S S0:Nat->Spc}
abbrev sq (n:Nat):Spc:=U7 (a1 Rx) (enc (X:=Prt)) (xZ n).b
abbrev MQ (n:Nat):Spc:=U7 (a1 Rx) (enc (X:=Prt)) (xZ n).r
abbrev DY (n:Nat):Spc:=U7 (a2 Rx Int) (enc (X:=Prt)) (xZ n).o
theorem JS {X:Type} {l:List X} {k:Nat} (h:k < l.length): ∃x,l[k]?=some x:=⟨_,List.getElem?_eq_getElem h⟩
theorem pM {X:Type} {l:List X} {k:Nat} {x:X} (h:l[k]?=some x):l.drop k=x::l.drop (k+1):=by
 obtain⟨h1,h2⟩:=List.getElem?_eq_some_iff.1 h
 rw[List.drop_eq_getElem_cons h1,h2]
set_option maxHeartbeats 1000000 in
theorem Vm (n:Nat) (h1:S az=sq n) (h2:S dr=MQ n) (h3:S aO=so):BX cM cK S (a1 Rx) (enc (X:=Prt)) (xZ (n+1)).b:=by
 rintro b v v' t ⟨op,mn,mx,rs,ks⟩ r hF
 replace hF:Zv (xZ n).b (xZ n).r t ⟨op,mn,mx,rs,ks⟩=some r:=hF
 unfold Zv at hF
 simp only at hF
 split at hF
 ·cases hF
 rename_i hok
 have hok1:t.lvs.length<=1000/\t.fol.length<=1000:=by
  cases hb:I4 t with
  | true=> exact of_decide_eq_true hb
  | false=> exact absurd (.inl hb) hok
 have hkl:ks.length<=1000:=by
  have: ¬1000 < ks.length:=fun h=> hok (.inr h)
  omega
 obtain⟨hlv,hfo⟩:=hok1
 have hkl': (ks.length:Int)<=9223372036854775807:=by omega
 have hlv': (t.lvs.length:Int)<=9223372036854775807:=by omega
 split at hF
 ·rename_i e
  subst e
  obtain rfl:=Option.some.inj hF
  simp[cM,cK,rG,mA,mB,oJ,hlv', -Bool.forall_bool, -Bool.exists_bool]
  refine fun b1=> ⟨by omega,by omega,fun w=> ⟨by omega,by omega,fun w'=> ?_⟩⟩
  exact rT w w' ⟨t.lvs++ [rs],t.fi,t.la,t.fol++ [⟨0⟩],t.nul⟩ ⟨⟨Kq .u64 1 t.lvs.length⟩,⟨Kq .u64 1 t.lvs.length⟩,false⟩ rfl rfl (by simp[mA,ah]) (by simp[mB,ah]) ⟨rfl,rfl⟩
 rename_i e1
 split at hF
 ·rename_i e
  subst e
  simp[cM,cK,rG,mA,mB,oJ,hkl', -Bool.forall_bool, -Bool.exists_bool]
  intro b4 b6
  refine aA (X:=Tbk×Prt×Value×Value) [0,4,6,50] [4] ks.length (fun k x=> qcb (xZ n).b (ks.drop k) x.1 x.2.1=some r) (fun x=> []) (fun x=> [(0, .box b [.own 990 x.2.2.1, .v (.int .u64 x.1.fi.val), .v (.int .u64 x.1.la.val), .own 991 x.2.2.2, .v (.bool x.1.nul)]),(990, .row x.2.2.1 da 1 (x.1.lvs.map enc)),(991, .row x.2.2.2 dY 1 (x.1.fol.map enc)),(6, .box b6 [.v (.int .u64 x.2.1.first.val), .v (.int .u64 x.2.1.last.val), .v (.bool x.2.1.nul)])]) (t,xe,v,v') (by simp) (by simp) (by omega) (by simp) (by simp) (by simpa using hF) (by simp) (by simp[xe]) ?_ ?_
  ·rintro k ⟨t,p,w,w'⟩ hk hx
   obtain⟨y,hy⟩:=JS hk
   obtain⟨_,hgy⟩:=List.getElem?_eq_some_iff.1 hy
   rw[pM hy,qcb] at hx
   obtain⟨q,hq,hx⟩:=Option.bind_eq_some_iff.1 hx
   obtain⟨c,hc,hx⟩:=Option.bind_eq_some_iff.1 hx
   simp[hk,hy,hgy,h1,h3,hq,hc, -Bool.forall_bool, -Bool.exists_bool]
   exact fun u u'=> ⟨c.1,c.2,hx,u,u', .inl ⟨rfl,rfl,rfl,rfl,rfl⟩, .inl ⟨rfl,rfl⟩, .inl ⟨rfl,rfl⟩, .inl ⟨rfl,rfl,rfl⟩⟩
  ·rintro⟨t,p,w,w'⟩ hx
   rw[List.drop_length,qcb] at hx
   obtain rfl:=Option.some.inj hx
   simp[-Bool.forall_bool, -Bool.exists_bool]
   exact rT w w' t p rfl rfl rfl rfl ⟨rfl,rfl⟩
 rename_i e2
 split at hF
 ·rename_i e
  subst e
  simp[cM,cK,rG,mA,mB,oJ,hkl', -Bool.forall_bool, -Bool.exists_bool]
  intro b4 b9
  refine aA (X:=Tbk×Prt×Value×Value) [0,4,9,67] [4] ks.length (fun k x=> qaQ (xZ n).b (ks.drop k) x.1 x.2.1=some r) (fun x=> []) (fun x=> [(0, .box b [.own 990 x.2.2.1, .v (.int .u64 x.1.fi.val), .v (.int .u64 x.1.la.val), .own 991 x.2.2.2, .v (.bool x.1.nul)]),(990, .row x.2.2.1 da 1 (x.1.lvs.map enc)),(991, .row x.2.2.2 dY 1 (x.1.fol.map enc)),(9, .box b9 [.v (.int .u64 x.2.1.first.val), .v (.int .u64 x.2.1.last.val), .v (.bool x.2.1.nul)])]) (t,qgy,v,v') (by simp) (by simp) (by omega) (by simp) (by simp) (by simpa using hF) (by simp) (by simp[qgy]) ?_ ?_
  ·rintro k ⟨t,p,w,w'⟩ hk hx
   obtain⟨y,hy⟩:=JS hk
   obtain⟨_,hgy⟩:=List.getElem?_eq_some_iff.1 hy
   rw[pM hy,qaQ] at hx
   obtain⟨q,hq,hx⟩:=Option.bind_eq_some_iff.1 hx
   simp[hk,hy,hgy,h1,hq, -Bool.forall_bool, -Bool.exists_bool]
   refine fun u u'=> ⟨fun hn=> ⟨q.1,_,hx,u,u', .inl ⟨rfl,rfl,rfl,rfl,rfl⟩, .inl ⟨rfl,rfl⟩, .inl ⟨rfl,rfl⟩, .inl ⟨rfl,rfl,by simp[hn]⟩⟩,fun hn=> ⟨q.1,_,hx,u,u', .inl ⟨rfl,rfl,rfl,rfl,rfl⟩, .inl ⟨rfl,rfl⟩, .inl ⟨rfl,rfl⟩, .inl ⟨rfl,rfl,by simp[hn]⟩⟩⟩
  ·rintro⟨t,p,w,w'⟩ hx
   rw[List.drop_length,qaQ] at hx
   obtain rfl:=Option.some.inj hx
   simp[-Bool.forall_bool, -Bool.exists_bool]
   exact rT w w' t p rfl rfl rfl rfl ⟨rfl,rfl⟩
 rename_i e3
 simp[cM,cK,rG,mA,mB,oJ,h2,e1,e2,e3,hF, -Bool.forall_bool, -Bool.exists_bool]
 intro b1 w w'
 exact rT w w' r.1 r.2 rfl rfl rfl rfl rfl
end Go.Gv

namespace Go.Gv
open Cod (enc dec)
variable {S S0:Nat->Spc}
theorem rM {t:Tbk} (h:I4 t≠false):t.lvs.length<=1000/\t.fol.length<=1000:=by
 cases hb:I4 t with
 | true=> exact of_decide_eq_true hb
 | false=> exact absurd hb h
set_option maxHeartbeats 1000000 in
theorem Mm (n:Nat) (h1:S az=sq n) (h2:S bB=DY n) (h3:S aO=so):BX cP cN S (a2 Rx Int) (enc (X:=Prt)) (xZ (n+1)).o:=by
 rintro b v v' t ⟨y,m⟩ r hF
 replace hF:YF (xZ n).b (xZ n).o t ⟨y,m⟩=some r:=hF
 unfold YF at hF
 simp only at hF
 split at hF
 ·cases hF
 rename_i hok
 have hok1:=rM fun h=> hok (.inr (.inr h))
 have hm0:0<=m:=by have: ¬m < 0:=fun h=> hok (.inl h);omega
 have hm1:m<=100:=by have: ¬100 < m:=fun h=> hok (.inr (.inl h));omega
 obtain⟨hlv,hfo⟩:=hok1
 have hlv': (t.lvs.length:Int)<=9223372036854775807:=by omega
 split at hF
 ·rename_i e
  subst e
  obtain rfl:=Option.some.inj hF
  simp[cP,cN,rG,mA,mB,oJ, -Bool.forall_bool, -Bool.exists_bool]
  intro b1
  exact rT v v' t xe rfl rfl rfl rfl ⟨rfl,rfl⟩
 rename_i e0
 obtain⟨q,hq,hF⟩:=Option.bind_eq_some_iff.1 hF
 split at hF
 ·cases hF
 rename_i hok2
 have hok3:=rM hok2
 obtain⟨hlq,hfq⟩:=hok3
 have hlq': (q.1.lvs.length:Int)<=9223372036854775807:=by omega
 split at hF
 ·rename_i e
  obtain rfl:=Option.some.inj hF
  have e': (q.1.lvs.length:Int)=t.lvs.length:=by omega
  simp[cP,cN,rG,mA,mB,oJ,h1,hq,e0,hlv',hlq',e,e', -Bool.forall_bool, -Bool.exists_bool]
  intro b1 w w'
  exact rT w w' q.1 xe rfl rfl rfl rfl ⟨rfl,rfl⟩
 rename_i e
 obtain⟨c,hc,hF⟩:=Option.bind_eq_some_iff.1 hF
 obtain⟨l,hl,hF⟩:=Option.map_eq_some_iff.1 hF
 subst hF
 have e': ¬ (q.1.lvs.length:Int)=t.lvs.length:=by omega
 have hin:InR .i64 (m -1):=by simp only[InR];omega
 simp[cP,cN,rG,mA,mB,oJ,h1,h2,h3,hq,hc,hl,e0,hlv',hlq',e,e',hin, -Bool.forall_bool, -Bool.exists_bool]
 exact fun b1 w w'=> rT w w' l.1 _ rfl rfl rfl rfl ⟨rfl,rfl⟩
end Go.Gv

namespace Go.Gv
open Cod (enc dec)
variable {S S0:Nat->Spc}
def Xr (b:Tbk->Rx->Option (Tbk×Prt)) (o:Tbk->Rx×Int->Option (Tbk×Prt)) (y:Rx) (mn mx:Int) (q:Tbk×Prt×Bool):Option (Tbk×Prt):=
 if q.2.2=true then some (q.1,xe) else
  if mx < 0/\mn=0 then(b q.1 y).bind fun r=> (zp r.1 (r.2.last,r.2.first)).map fun l=> (l.1, { r.2 with nul:=true }) else
  if mn < mx then(o q.1 (y,mx -mn)).bind fun r=> tv r.1 (q.2.1,r.2) else some (q.1,q.2.1)
set_option maxHeartbeats 2000000 in
theorem Ro (n:Nat) (h1:S az=sq n) (h2:S bB=DY n) (h3:S aO=so) (h4:S bM=yI):BX gL gw S (a1 Rx) (enc (X:=Prt)) (xZ (n+1)).r:=by
 rintro b v v' t ⟨op,mn,mx,rs,ks⟩ r hF
 replace hF:Sc (xZ n).b (xZ n).o t ⟨op,mn,mx,rs,ks⟩=some r:=hF
 unfold Sc at hF
 simp only at hF
 split at hF
 ·cases hF
 rename_i y ks'
 split at hF
 ·cases hF
 rename_i hrng
 obtain⟨q,hq,hF⟩:=Option.bind_eq_some_iff.1 hF
 have hF:Xr (xZ n).b (xZ n).o y mn mx q=some r:=hF
 have hm:mn=(mn.toNat:Int):=by omega
 generalize mn.toNat=m at hm hq
 subst hm
 have hm': (m:Int)<=9223372036854775807:=by omega
 have hpos: (0:Int) < ((y::ks').length:Int):=by simp
 simp[gL,gw,rG,mA,mB,oJ,hm', -Bool.forall_bool, -Bool.exists_bool]
 intro b4 b5
 refine aA (X:=Tbk×Prt×Value×Value) [0,3,4,5] [4] m (fun k x=> (qa8 (xZ n).b y mx (m -k) x.1 x.2.1).bind (Xr (xZ n).b (xZ n).o y m mx)=some r) (fun x=> []) (fun x=> [(0, .box b [.own 990 x.2.2.1, .v (.int .u64 x.1.fi.val), .v (.int .u64 x.1.la.val), .own 991 x.2.2.2, .v (.bool x.1.nul)]),(990, .row x.2.2.1 da 1 (x.1.lvs.map enc)),(991, .row x.2.2.2 dY 1 (x.1.fol.map enc)),(5, .box b5 [.v (.int .u64 x.2.1.first.val), .v (.int .u64 x.2.1.last.val), .v (.bool x.2.1.nul)])]) (t,xe,v,v') (by simp) (by simp) (by omega) (by simp) (by simp) (by simp[hq,hF]) (by simp) (by simp[xe]) ?_ ?_
 ·rintro k ⟨t,p,w,w'⟩ hk hx
  rw[show m -k=(m - (k+1)) +1 by omega,qa8] at hx
  simp only at hx
  split at hx
  ·cases hx
  rename_i hok
  obtain⟨hlv,hfo⟩:=rM hok
  have hlv': (t.lvs.length:Int)<=9223372036854775807:=by omega
  cases hb: (xZ n).b t y with
  | none=> rw[hb] at hx;cases hx
  | some c=>
  rw[hb,Option.bind_some] at hx
  split at hx
  ·cases hx
  rename_i hok2
  obtain⟨hlq,hfq⟩:=rM hok2
  have hlq': (c.1.lvs.length:Int)<=9223372036854775807:=by omega
  split at hx
  ·rename_i e
   have e': (c.1.lvs.length:Int)=t.lvs.length:=by omega
   simp[hk,h1,hb,hlv',hlq',e,e', -Bool.forall_bool, -Bool.exists_bool]
   have hx:some (c.1,xe)=some r:=hx
   obtain rfl:=Option.some.inj hx
   exact fun u u'=> rT u u' c.1 xe rfl rfl rfl rfl rfl
  rename_i e
  have e': ¬ (c.1.lvs.length:Int)=t.lvs.length:=by omega
  have hin:InR .i64 ((m:Int) -1):=by simp only[InR];omega
  by_cases hmx:mx < 0
  ·by_cases hkm:m - (k+1)=0
   ·rw[if_pos ⟨hmx,hkm⟩] at hx
    have hkm': (k:Int)=m -1:=by omega
    cases hl:zp c.1 (c.2.last,c.2.first) with
    | none=> rw[hl] at hx;cases hx
    | some l=>
    rw[hl,Option.bind_some] at hx
    cases hc:tv l.1 (p,c.2) with
    | none=> rw[hc] at hx;cases hx
    | some d=>
    rw[hc,Option.bind_some] at hx
    simp[hk,h1,h3,h4,hb,hl,hc,hlv',hlq',e,e',hin,hmx,hkm', -Bool.forall_bool, -Bool.exists_bool]
    exact fun u u'=> ⟨d.1,d.2,hx,u,u', .inl ⟨rfl,rfl,rfl,rfl,rfl⟩, .inl ⟨rfl,rfl⟩, .inl ⟨rfl,rfl⟩, .inl ⟨rfl,rfl,rfl⟩⟩
   ·rw[if_neg (fun h=> hkm h.2)] at hx
    have hkm': ¬ (k:Int)=m -1:=by omega
    rw[Option.bind_some] at hx
    cases hc:tv c.1 (p,c.2) with
    | none=> rw[hc] at hx;cases hx
    | some d=>
    rw[hc,Option.bind_some] at hx
    simp[hk,h1,h3,h4,hb,hc,hlv',hlq',e,e',hin,hmx,hkm', -Bool.forall_bool, -Bool.exists_bool]
    exact fun u u'=> ⟨d.1,d.2,hx,u,u', .inl ⟨rfl,rfl,rfl,rfl,rfl⟩, .inl ⟨rfl,rfl⟩, .inl ⟨rfl,rfl⟩, .inl ⟨rfl,rfl,rfl⟩⟩
  ·rw[if_neg (fun h=> hmx h.1)] at hx
   rw[Option.bind_some] at hx
   cases hc:tv c.1 (p,c.2) with
   | none=> rw[hc] at hx;cases hx
   | some d=>
   rw[hc,Option.bind_some] at hx
   simp[hk,h1,h3,h4,hb,hc,hlv',hlq',e,e',hmx, -Bool.forall_bool, -Bool.exists_bool]
   exact fun u u'=> ⟨d.1,d.2,hx,u,u', .inl ⟨rfl,rfl,rfl,rfl,rfl⟩, .inl ⟨rfl,rfl⟩, .inl ⟨rfl,rfl⟩, .inl ⟨rfl,rfl,rfl⟩⟩
 ·rintro⟨t,p,w,w'⟩ hx
  simp only[Nat.sub_self,qa8,Option.bind_some] at hx
  have hx: (if mx < 0/\(m:Int)=0 then((xZ n).b t y).bind fun r=> (zp r.1 (r.2.last,r.2.first)).map fun l=> (l.1, { r.2 with nul:=true }) else
   if(m:Int) < mx then((xZ n).o t (y,mx -m)).bind fun r=> tv r.1 (p,r.2) else some (t,p))=some r:=hx
  by_cases hA:mx < 0/\(m:Int)=0
  ·rw[if_pos hA] at hx
   obtain⟨hmx,hm0⟩:=hA
   obtain⟨c,hb,hx⟩:=Option.bind_eq_some_iff.1 hx
   obtain⟨l,hl,rfl⟩:=Option.map_eq_some_iff.1 hx
   have hm0':m=0:=by omega
   subst hm0'
   simp[h1,h4,hb,hl,hmx, -Bool.forall_bool, -Bool.exists_bool]
   exact fun u u'=> rT u u' l.1 _ rfl rfl rfl rfl ⟨rfl,rfl⟩
  ·rw[if_neg hA] at hx
   by_cases hB: (m:Int) < mx
   ·rw[if_pos hB] at hx
    obtain⟨c,hb,hx⟩:=Option.bind_eq_some_iff.1 hx
    have n0: ¬mx < 0:=by omega
    have hin:InR .i64 (mx -m):=by simp only[InR];omega
    simp[h2,h3,hb,hx,n0,hB,hin, -Bool.forall_bool, -Bool.exists_bool]
    exact fun u u'=> rT u u' r.1 r.2 rfl rfl rfl rfl rfl
   ·rw[if_neg hB] at hx
    obtain rfl:=Option.some.inj hx
    by_cases hmx:mx < 0
    ·have hm0: ¬ (m:Int)=0:=fun h=> hA ⟨hmx,h⟩
     have hm0': ¬m=0:=by omega
     simp[hmx,hm0,hm0',hB, -Bool.forall_bool, -Bool.exists_bool]
     exact rT w w' t p rfl rfl rfl rfl ⟨rfl,rfl⟩
    ·simp[hmx,hB, -Bool.forall_bool, -Bool.exists_bool]
     exact rT w w' t p rfl rfl rfl rfl ⟨rfl,rfl⟩
end Go.Gv

namespace Go.Gv
open Cod (enc dec)
def NQ (t:Tbk):D:= .cptr [enc t.lvs,enc t.fi,enc t.la,enc t.fol,enc t.nul] 0
theorem TH {t t':Tbk} (h:NQ t=NQ t'):t=t':=by
 obtain⟨a1,a2,a3,a4,a5⟩:=t
 obtain⟨b1,b2,b3,b4,b5⟩:=t'
 unfold NQ at h
 injection h with h1 h2
 simp only[List.cons.injEq] at h1
 obtain⟨h1,h2,h3,h4,h5,_⟩:=h1
 have h1:=bj h1
 have h2:=bj h2
 have h3:=bj h3
 have h4:=bj h4
 have h5:=bj h5
 subst h1;subst h2;subst h3;subst h4;subst h5
 rfl
open Classical in
noncomputable instance:Cod Tbk where
 wd:=1
 enc:=NQ
 dec d:=if h: ∃t,d=NQ t then some h.choose else none
 kn _:=rfl
 wid _:=rfl
 dec_enc t:=by
  have h: ∃t',NQ t=NQ t':=⟨t,rfl⟩
  rw[dif_pos h]
  exact congrArg some (TH h.choose_spec).symm
 le d x h:=by
  split at h
  ·rename_i h'
   cases h
   rw[h'.choose_spec.symm]
   exact .same _
  ·cases h
@[simp] theorem qeO (t:Tbk):enc t= .cptr [enc t.lvs,enc t.fi,enc t.la,enc t.fol,enc t.nul] 0:=id rfl
@[simp] theorem qeY (l:List (List Rng)) (f a:Int) (fo:List U64) (n:Bool):dec (X:=Tbk) (.cptr [.list 1 (l.map enc), .v (.int .u64 f), .v (.int .u64 a), .list 1 (fo.map enc), .v (.bool n)] 0)=some ⟨l,⟨f⟩,⟨a⟩,fo,n⟩:=Cod.dec_enc (X:=Tbk) ⟨l,⟨f⟩,⟨a⟩,fo,n⟩
end Go.Gv

namespace Go.Gv
open Cod (enc dec)
variable {S S0:Nat->Spc}
def Xe (n:Nat) (x:Rx):Prop:=(Vv n x).isSome=true
def ZF (n:Nat) (x:Rx) (t:Tbk):Prop:=Vv n x=some t
noncomputable abbrev RU (n:Nat):Spc:=cC (a1 Rx) (Xe n) (enc (X:=Tbk)) (ZF n)
theorem qfY (n:Nat) (h1:S az=sq n):aV ta sy S (a1 Rx) (Xe n) (enc (X:=Tbk)) (ZF n):=by
 rintro x hx
 obtain⟨t,ht⟩:=Option.isSome_iff_exists.1 hx
 obtain⟨q,hq,rfl⟩:=Option.map_eq_some_iff.1 ht
 have hq0: (xZ n).b ⟨[],⟨0⟩,⟨0⟩, [],false⟩ x=some q:=hq
 simp[ta,sy, -Bool.forall_bool, -Bool.exists_bool]
 refine qu (X:=Nat) [1] [] [] [] (fun _=> True) (fun b=> [(3, .bptr 6 b 0)]) (fun b=> [(6, .box b [.own 990 (.slice none 0 0), .v (.int .u64 0), .v (.int .u64 0), .own 991 (.slice none 0 0), .v (.bool false)]),(990, .row (.slice none 0 0) da 1 []),(991, .row (.slice none 0 0) dY 1 [])]) [6,990,991] (fun _=> rfl) (by decide) ?_ ?_
 ·simp
  refine fun b=> ⟨b, .same _, .inl ?_,by simp[isNilRow],by simp[isNilRow]⟩
  simp
  exact⟨.nilown 990, .nilown 991⟩
 ·rintro b -
  have e1: (Res.row (.slice none 0 0) da 1 []:Res)= .row (.slice none 0 0) da 1 (([]:List (List Rng)).map enc):=rfl
  have e2: (Res.row (.slice none 0 0) dY 1 []:Res)= .row (.slice none 0 0) dY 1 (([]:List U64).map enc):=rfl
  rw[e1,e2]
  simp[h1,hq0, -List.map_nil, -Bool.forall_bool, -Bool.exists_bool]
  simp[hq0, -Bool.forall_bool, -Bool.exists_bool]
  intro w w'
  refine qu (X:=Unit) [] [] [990,991] [] (fun _=> True) (fun _=> [(2, .bptr 6 b 0)]) (fun _=> [(6, .box b [enc q.1.lvs, .v (.int .u64 q.2.first.val), .v (.int .u64 q.2.last.val),enc q.1.fol, .v (.bool q.2.nul)])]) [6] (fun _=> rfl) (by decide) ?_ ?_
  ·simp
   exact .inl ⟨xI (l:=q.1.lvs) da rfl,xI (l:=q.1.fol) dY rfl⟩
  ·rintro - -
   simp
   refine eR ⟨q.1.lvs,q.2.first,q.2.last,q.1.fol,q.2.nul⟩ ?_ ht
   exact .box rfl
def UV (x:Tbk×U64×Bool):Prop:=x.1.fol.length<=100000
def UM (x:Tbk×U64×Bool) (y:U64):Prop:=y=uF x.1 x.2.1 x.2.2
noncomputable abbrev MR:Spc:=cC (a3 Tbk U64 Bool) UV (enc (X:=U64)) UM
theorem Vo:aV fI fq S (a3 Tbk U64 Bool) UV (enc (X:=U64)) UM:=by
 rintro⟨⟨lv,fi,la,fo,nu⟩,set,beg⟩ hlen
 have hlen:fo.length<=100000:=hlen
 have hl: (fo.length:Int)<=9223372036854775807:=by omega
 cases beg
 ·simp[fI,fq,hl, -Bool.forall_bool, -Bool.exists_bool]
  refine aA (X:=U64) [1,18] [] fo.length (fun k m=> Xx set k (fo.drop k) m=Xx set 0 fo ⟨0⟩) (fun m=> [(7,enc m)]) (fun x=> []) ⟨0⟩ (by simp) (by simp) (by omega) (by simp) (by simp) (by simp) (by simp) (by simp) ?_ ?_
  ·rintro k m hk hm
   obtain⟨f,hf⟩: ∃f,fo[k]?=some f:=⟨_,List.getElem?_eq_getElem hk⟩
   obtain⟨_,hgf⟩:=List.getElem?_eq_some_iff.1 hf
   rw[Sy hf] at hm
   simp[hk,hf,hgf, -Bool.forall_bool, -Bool.exists_bool]
   exact⟨fun hb=> ⟨VL m f,by simpa [hb] using hm,rfl⟩,fun hb=> ⟨m,by simpa [hb] using hm,rfl⟩⟩
  ·rintro m hm
   rw[List.drop_length,Xx] at hm
   subst hm
   simp[-Bool.forall_bool, -Bool.exists_bool]
   exact eR _ (.same _) rfl
 ·simp[fI,fq,hl, -Bool.forall_bool, -Bool.exists_bool]
  exact eR _ (.same _) rfl
end Go.Gv

namespace Go.Gv
open Cod (enc dec)
def JG (l:List Rng) (c:Int):Bool:=l.any fun r=> decide (r.fr.val<=c) && decide (c<=r.to.val)
def Z7 (next:U64) (c:I32):Nat->List (List Rng)->U64->U64
 | _, [],m=> m
 | i,l::ls,m=> Z7 next c (i+1) ls (if Ra next i && JG l c.val then⟨qbi .u64 m.val (Kq .u64 1 i)⟩ else m)
def Vq (next:U64) (lvs:List (List Rng)):List I32->U64->U64
 | [],m=> m
 | v::vs,m=> Vq next lvs vs (Z7 next v 0 lvs m)
def qbq (t:Tbk) (vf:I32->List I32):List I32->U64->Bool->Bool
 | [],set,beg=> (beg && t.nul) || decide (N3 .u64 set.val t.la.val≠0)
 | c::l,set,beg=> if(Vq (uF t set beg) t.lvs (vf c) ⟨0⟩).val=0 then false else qbq t vf l (Vq (uF t set beg) t.lvs (vf c) ⟨0⟩) false
def low (c:Int):Int:=if 65<=c/\c<=90 then c+32 else c
def Fk (c:I32):List I32:=([⟨low c.val⟩,⟨low c.val -32⟩,⟨low c.val -80⟩]:List I32).filter fun v=> decide (0<=v.val/\low v.val=low c.val)
def Mp (f:Bool) (c:I32):List I32:=if f=true then Fk c else[c]
def WO (l:List UInt8):List I32:=l.map fun c=> ⟨(c.toNat:Int)⟩
def xg (x:Rx) (s:B) (f:Bool):Option Bool:=if wD 50 x=true/\rm s=true/\s.size<=1000 then(Vv 50 x).bind fun t=> if I4 t=true then some (qbq t (Mp f) (WO s.data.toList) ⟨0⟩ true) else none else none
end Go.Gv

namespace Go.Gv
open Go.Proofs
def pO:CC:=oX [oB 3 (.box aC true (oT 0)),oB 6 (.mv (.const ob))] [1,2,3] [] (.seq (oX [oD 17 5 3,oZ 18 cY [oT 17],oB 19 (.eql true false [.int] (oT 18) (oN 0)),oA 20 19,oI 21 20 (.mv (oT 1)),oI 22 20 (.call df [oT 21]),oI 23 20 (.not (oT 22)),oB 24 (.pick (oT 20) (.const (.bool true)) (oT 23))] [1,2,3,24] [] (.ite (oT 24) (oX [
 oB 6 (.mv (.const ob))] [6] [] (.ret)) (.skip))) (.keep [1,2,3] [] (oX [oD 25 5 3,oZ 26 nz [oT 25],oA 7 26] [1,2,7] [] (oX [oB 8 (.mv (.const (.int .u64 0))),oB 9 (.mv (.const (.bool true)))] [1,2,7,8,9] [] (.seq (oX [oA 27 1,oB 28 (.srange (oT 27))] [2,7,8,9,28] [28] (.block 0 (.loop 1 (oX [oB 29 (.snext (oT 28)),
 oB 30 (.ext (oT 29) 0)] [2,7,8,9,28,29,30] [28] (.seq (.ite (oT 30) (.skip) (.exit 0)) (.keep [2,7,8,9,28,29] [28] (.block 1 (oX [oB 31 (.ext (oT 29) 2),oA 11 31] [2,7,8,9,11,28] [28] (oX [oA 32 7,oA 33 8,oA 34 9,oZ 35 ep [oT 32,oT 33,oT 34],oA 12 35] [2,7,11,12,28] [28] (oX [oB 8 (.mv (.const (.int .u64 0))),oB 9 (.mv (.const ob))] [2,7,8,9,11,12,28] [28] (.seq (oX [
 oA 36 2,oA 37 11,oB 38 (.callv (oT 36) [oT 37]),oB 39 (.len (oT 38)),oB 40 (.mv (oN 0))] [2,7,8,9,12,28,38,39,40] [28] (aP 2 40 39 41 3 (oX [oB 42 (.iaddr 1 (oT 38) (oT 40)),oC 43 1 42,oA 14 43] [2,7,8,9,12,14,28,38,39,40] [28] (oX [oA 44 7,oG 45 44,oE 46 0 45,oC 47 1 46,oB 48 (.len (oT 47)),
 oB 49 (.mv (oN 0))] [2,7,8,9,12,14,28,38,39,40,47,48,49] [28] (aP 4 49 48 50 5 (oX [oA 51 49,oB 52 (.iaddr 1 (oT 47) (oT 49)),oC 53 1 52,oA 15 51,oA 16 53] [2,7,8,9,12,14,15,16,28,38,39,40,47,48,49] [28] (oX [oA 54 12,oA 55 15,oB 56 (.arith .shr (oT 54) (oT 55)),oB 57 (.arith .and (oT 56) (.const (.int .u64 1))),oB 58 (.eql false false [.int] (oT 57) (.const (.int .u64 1))),
 oA 59 58,oH 60 59 (.mv (oT 16)),oH 61 59 (.mv (oT 14)),oH 62 59 (.call f8 [oT 60,oT 61]),oB 63 (.pick (oT 59) (oT 62) (.const ob))] [2,7,8,9,12,14,15,28,38,39,40,47,48,49,63] [28] (.ite (oT 63) (.reg [oA 64 8,oA 65 15,oB 66 (.arith .shl (.const (.int .u64 1)) (oT 65)),oB 67 (.arith .or (oT 64) (oT 66)),oA 8 67]) (.skip)))) 68))) 69)) (.keep [2,7,8,9,28] [28] (oX [oA 70 8,
 oB 71 (.eql false false [.int] (oT 70) (.const (.int .u64 0)))] [2,7,8,9,28,71] [28] (.ite (oT 71) (oX [oB 6 (.mv (.const ob))] [6] [] (.ret)) (.skip))))))))))))))) (.keep [7,8,9] [] (oX [oA 72 9,oA 73 72,oH 74 73 (.mv (oT 7)),oH 75 73 (.nilck (oT 74)),oH 76 73 (.faddr 4 (oT 75)),oH 77 73 (.load false 1 (oT 76)),oB 78 (.pick (oT 73) (oT 77) (.const ob)),oA 79 78,oI 80 79 (.mv (oT 8)),
 oI 81 79 (.mv (oT 7)),oI 82 79 (.nilck (oT 81)),oI 83 79 (.faddr 2 (oT 82)),oI 84 79 (.load false 1 (oT 83)),oI 85 79 (.arith .and (oT 80) (oT 84)),oI 86 79 (.eql true false [.int] (oT 85) (.const (.int .u64 0))),oB 87 (.pick (oT 79) (.const (.bool true)) (oT 86)),oA 6 87] [6] [] (.ret))))))))
def pg:List ar:= [.tmp 6]
def EX:List Nat:= [3]
theorem Et:ay Tryz.prog eC EX pO pg 88:=ak mixed (by kernel_rfl)
def pQ:CC:=oX [oB 2 (.box aC true (oT 0)),oB 4 (.mv (.const ob))] [1,2] [] (oX [oD 5 5 2,oA 6 1,oZ 7 eC [oT 5,oT 6,.func cq],oA 4 7] [4] [] (.ret))
def pi:List ar:= [.tmp 4]
def EZ:List Nat:= [2]
theorem Ev:ay Tryz.prog jR EZ pQ pi 8:=ak mixed (by kernel_rfl)
def mV:CC:=oX [oB 2 (.mv (.const on))] [0] [] (oX [oA 3 0,oB 4 (.bslice o5 1 [oT 3]),oA 2 4] [2] [] (.ret))
def mF:List ar:= [.tmp 2]
def Bc:List Nat:= []
theorem AT:ay Tryz.prog cq Bc mV mF 5:=ak mixed (by kernel_rfl)
def kJ:CC:=oX [oB 2 (.box aC true (oT 0)),oB 4 (.mv (.const ob))] [1,2] [] (oX [oD 5 5 2,oA 6 1,oZ 7 eC [oT 5,oT 6,.func bY],oA 4 7] [4] [] (.ret))
def kq:List ar:= [.tmp 4]
def xn:List Nat:= [2]
theorem wR:ay Tryz.prog fu xn kJ kq 8:=ak mixed (by kernel_rfl)
def lY:CC:=oX [oB 2 (.mv (.const on))] [0] [] (oX [oB 3 (.mv (.const on))] [0,3] [40] (oX [oA 9 0,oB 10 (.rstr (oT 9)),oZ 11 eL [oT 10],oA 4 11] [3,4] [40] (.seq (oX [oA 12 4,oB 13 (.srange (oT 12))] [3,4,13] [13,40] (.block 0 (.loop 1 (oX [oB 14 (.snext (oT 13)),oB 15 (.ext (oT 14) 0)] [3,4,13,14,15] [13,40] (.seq (.ite (oT 15) (.skip) (.exit 0))
 (.keep [3,4,13,14] [13,40] (.block 1 (oX [oB 16 (.ext (oT 14) 2),oA 6 16] [3,4,6,13] [13,40] (oX [oA 17 6,oA 18 6,oB 19 (.arith .sub (oT 18) (.const (.int .i32 32))),oA 20 6,oB 21 (.arith .sub (oT 20) (.const (.int .i32 80))),oB 22 (.bslice o5 1 [oT 17,oT 19,oT 21]),oB 23 (.len (oT 22)),oB 24 (.mv (oN 0))] [3,4,13,22,23,24] [13,40] (aP 2 24 23 25 3 (oX [
 oB 26 (.iaddr 1 (oT 22) (oT 24)),oC 27 1 26,oA 8 27] [3,4,8,13,22,23,24] [13,40] (oX [oA 28 8,oB 29 (.cmp .geq (oT 28) (.const (.int .i32 0))),oA 30 29,oH 31 30 (.mv (oT 8)),oH 32 30 (.rstr (oT 31)),oH 33 30 (.call eL [oT 32]),oH 34 30 (.mv (oT 4)),oH 35 30 (.eql false false [.str] (oT 33) (oT 34)),
 oB 36 (.pick (oT 30) (oT 35) (.const ob))] [3,4,8,13,22,23,24,36] [13,40] (.ite (oT 36) (.reg [oA 37 3,oA 38 8,oB 39 (.bslice o5 1 [oT 38]),oB 40 (.append none o5 1 4 (oT 37) (oT 39)),oA 3 40]) (.skip)))) 41)))))))))) (.keep [3] [40] (oX [oA 42 3,oA 2 42] [2] [40] (.ret))))))
def lk:List ar:= [.tmp 2]
def zs:List Nat:= []
theorem yS:ay Tryz.prog bY zs lY lk 43:=ak mixed (by kernel_rfl)
end Go.Gv

namespace Go.Gv
open Cod (enc dec)
variable {S S0:Nat->Spc}
def aMt:du (Rx×B×Bool):=⟨fun ds=> match ds with
 | [a,b, .clo f []]=> if f=cq then(dec a).bind fun x=> (dec b).map fun s=> (x,s,false) else if f=bY then(dec a).bind fun x=> (dec b).map fun s=> (x,s,true) else none
 | _=> none,fun x=> [enc x.1,enc x.2.1, .clo (if x.2.2=true then bY else cq) []],fun ds x h=> by
 split at h
 ·rename_i a b f
  split at h
  ·rename_i e
   simp only[Option.bind_eq_some_iff,Option.map_eq_some_iff] at h
   obtain⟨x,hx,s,hs,rfl⟩:=h
   subst e
   exact .cons (Cod.le _ _ hx) (.cons (Cod.le _ _ hs) (.cons (.same _) .nil))
  ·split at h
   ·rename_i e
    simp only[Option.bind_eq_some_iff,Option.map_eq_some_iff] at h
    obtain⟨x,hx,s,hs,rfl⟩:=h
    subst e
    exact .cons (Cod.le _ _ hx) (.cons (Cod.le _ _ hs) (.cons (.same _) .nil))
   ·cases h
 ·cases h⟩
@[simp] theorem qcy (x:Rx) (s:B) (f:Bool):aMt.view (x,s,f)= [enc x,enc s, .clo (if f=true then bY else cq) []]:=id rfl
@[simp] theorem qcA (a b:D):aMt.dec [a,b, .clo cq []]=(dec a).bind fun x=> (dec b).map fun s=> (x,s,false):=id rfl
@[simp] theorem qcz (a b:D):aMt.dec [a,b, .clo bY []]=(dec a).bind fun x=> (dec b).map fun s=> (x,s,true):=id rfl
abbrev Hj:Spc:=cC (a1 Rx) (fun x=> wD 50 x=true) (enc (X:=Int)) fun x y=> y=0
abbrev Ku:Spc:=cC (a2 (List Rng) I32) (fun _=> True) (enc (X:=Bool)) fun x y=> y=JG x.1 x.2.val
abbrev s_cpVal:Spc:=cC (a1 B) (fun s=> rm s=true/\s.size<=1000) (enc (X:=Bool)) fun _ y=> y=true
abbrev RZ:Spc:=cC (a1 I32) (fun c=> 0<=c.val/\c.val < 128) (enc (X:=List I32)) fun c y=> y=Mp false c
abbrev RT:Spc:=cC (a1 I32) (fun c=> 0<=c.val/\c.val < 128) (enc (X:=List I32)) fun c y=> y=Mp true c
def Xc (x:Rx×B×Bool):Prop:= ∃y,xg x.1 x.2.1 x.2.2=some y
def ZD (x:Rx×B×Bool) (y:Bool):Prop:=xg x.1 x.2.1 x.2.2=some y
abbrev Kv:Spc:=cC aMt Xc (enc (X:=Bool)) ZD
theorem BV {s:B} (h:rm s=true) {p:Nat} (hp:p < s.size): ∃c:UInt8,s.data.toList[p]?=some c/\c.toNat < 128/\Utf8.decode s p=(c.toNat,1):=by
 have hl:p < s.data.toList.length:=by rw[Array.length_toList];exact hp
 refine⟨s.data.toList[p],List.getElem?_eq_getElem hl,?_,?_⟩
 ·have:=List.all_eq_true.1 h _ (List.getElem_mem hl)
  simpa using this
 ·have h1: (s[p]'hp).toNat < 128:=by
   have:=List.all_eq_true.1 h _ (List.getElem_mem hl)
   have h2:s.data[p].toNat < 128:=by simpa using this
   exact h2
  have:=Go.decode_ascii s p hp h1
  rw[this]
  have:s[p]=s.data.toList[p]:=by
   rw[Array.getElem_toList]
   rfl
  rw[this]
set_option maxHeartbeats 2000000 in
theorem Gb (h1:S cY=Hj) (h2:S df=s_cpVal) (h3:S nz=RU 50) (h4:S ep=MR) (h5:S f8=Ku) (h6:S cq=RZ) (h7:S bY=RT):
 aV pO pg S aMt Xc (enc (X:=Bool)) ZD:=by
 rintro⟨x,s,f⟩ ⟨y,hy⟩
 have hy0:xg x s f=some y:=hy
 unfold xg at hy0
 split at hy0
 rotate_left
 ·cases hy0
 rename_i hc
 obtain⟨hv,ha,hsz⟩:=hc
 obtain⟨t,ht,hy1⟩:=Option.bind_eq_some_iff.1 hy0
 split at hy1
 rotate_left
 ·cases hy1
 rename_i hok
 have hres:qbq t (Mp f) (WO s.data.toList) ⟨0⟩ true=y:=Option.some.inj hy1
 obtain⟨hlv,hfo⟩:=rM (t:=t) (by rw[hok];simp)
 have hOf:ZF 50 x t:=ht
 have hPOf:Xe 50 x:=by unfold Xe;rw[ht];rfl
 simp[pO,pg,h1,h2,h3,hv,ha,hsz,hPOf, -Bool.forall_bool, -Bool.exists_bool]
 intro t' ht' b
 obtain rfl:t=t':=by
  have h:Vv 50 x=some t':=ht'
  rw[ht] at h
  exact Option.some.inj h
 refine aY (X:=U64×Bool×Nat) [2,7,28] [] (fun z=> qbq t (Mp f) (WO (s.data.toList.drop z.2.2)) z.1 z.2.1=y/\z.2.2<=s.size) (fun z=> [(8,enc z.1),(9,enc z.2.1)]) (fun z=> [(28, .iter b s z.2.2)]) (fun z=> s.size -z.2.2) (⟨0⟩,true,0) ⟨by simpa using hres,Nat.zero_le _⟩ (by simp) (by simp) ?_
 rintro⟨set,beg,pos⟩ ⟨hm,hp⟩
 simp only at hm hp
 by_cases hlt:pos < s.size
 ·obtain⟨c,hc,hc128,hdec⟩:=BV ha hlt
  rw[pM hc] at hm
  have hm: (if(Vq (uF t set beg) t.lvs (Mp f ⟨(c.toNat:Int)⟩) ⟨0⟩).val=0 then false else qbq t (Mp f) (WO (s.data.toList.drop (pos+1))) (Vq (uF t set beg) t.lvs (Mp f ⟨(c.toNat:Int)⟩) ⟨0⟩) false)=y:=hm
  have hN:UV (t,set,beg):=by show t.fol.length<=100000;omega
  have hq:UM (t,set,beg) (uF t set beg):=rfl
  have c0: (0:Int)<=(c.toNat:Int):=by omega
  have c1: (c.toNat:Int) < 128:=by omega
  have hvl: ((Mp f ⟨(c.toNat:Int)⟩).length:Int)<=9223372036854775807:=by
   have: (Mp f ⟨(c.toNat:Int)⟩).length<=3:=by
    unfold Mp
    split
    ·unfold Fk
     exact Nat.le_trans (List.length_filter_le _ _) (by simp)
    ·simp
   omega
  have h8:S (if f=true then bY else cq)=cC (a1 I32) (fun c=> 0<=c.val/\c.val < 128) (enc (X:=List I32)) fun c y=> y=Mp f c:=by
   cases f
   ·exact h6
   ·exact h7
  simp[hlt,hdec,h4,hN,h8,c0,c1,hvl, -Bool.forall_bool, -Bool.exists_bool]
  intro nx hnx
  obtain rfl:nx=uF t set beg:=hnx
  generalize uF t set beg=nx at hm
  generalize Mp f ⟨(c.toNat:Int)⟩=vs at hm hvl
  refine aA (X:=U64) [2,7,9,12,28,38] [28] vs.length (fun k m=> Vq nx t.lvs (vs.drop k) m=Vq nx t.lvs vs ⟨0⟩) (fun m=> [(8,enc m)]) (fun _=> []) ⟨0⟩ (by simp) (by simp) (by omega) (by simp) (by simp) (by simp) (by simp) (by simp) ?_ ?_
  ·rintro k m hk hm2
   obtain⟨v,hvk⟩:=JS hk
   obtain⟨_,hgv⟩:=List.getElem?_eq_some_iff.1 hvk
   rw[pM hvk,Vq] at hm2
   have hlv': (t.lvs.length:Int)<=9223372036854775807:=by omega
   simp[hk,hvk,hgv,hlv', -Bool.forall_bool, -Bool.exists_bool]
   refine aA (X:=U64) [2,7,9,12,14,28,38,39,40,47] [28] t.lvs.length (fun k m'=> Z7 nx v k (t.lvs.drop k) m'=Z7 nx v 0 t.lvs m) (fun m=> [(8,enc m)]) (fun _=> []) m (by simp) (by simp) (by omega) (by simp) (by simp) (by simp) (by simp) (by simp) ?_ ?_
   ·rintro j m' hj hm3
    obtain⟨lf,hlf⟩:=JS hj
    obtain⟨_,hgl⟩:=List.getElem?_eq_some_iff.1 hlf
    rw[pM hlf,Z7] at hm3
    simp[hj,hlf,hgl,h5, -Bool.forall_bool, -Bool.exists_bool]
    refine⟨fun hb=> ⟨fun hc=> ⟨_,by rw[if_pos (by simp[hb,hc])] at hm3;exact hm3,rfl⟩,fun hc=> ⟨m',by rw[if_neg (by simp[hc])] at hm3;exact hm3,rfl⟩⟩,fun hb=> ⟨m',by rw[if_neg (by simp[hb])] at hm3;exact hm3,rfl⟩⟩
   ·rintro m' hm3
    rw[List.drop_length,Z7] at hm3
    subst hm3
    simp[-Bool.forall_bool, -Bool.exists_bool]
    exact⟨_,hm2,rfl⟩
  ·rintro m hm2
   rw[List.drop_length,Vq] at hm2
   subst hm2
   simp[-Bool.forall_bool, -Bool.exists_bool]
   refine⟨fun h0=> ?_,fun h0=> ?_⟩
   ·rw[if_pos h0] at hm
    subst hm
    exact hy
   ·rw[if_neg h0] at hm
    exact⟨_,false,pos+1,⟨hm,by omega⟩,⟨⟨rfl,rfl⟩, .inl rfl⟩,by omega⟩
 ·have hpe:pos=s.size:=by omega
  subst hpe
  rw[List.drop_eq_nil_of_le (by rw[Array.length_toList];exact Nat.le_refl _)] at hm
  have hm: ((beg && t.nul) || decide (N3 .u64 set.val t.la.val≠0))=y:=hm
  simp[-Bool.forall_bool, -Bool.exists_bool]
  have hQ: ∀w,w=y->ZD (x,s,f) w:=fun w e=> by subst e;exact hy
  refine⟨fun hb=> ⟨fun hn=> hQ _ ?_,fun hn=> hQ _ ?_⟩,fun hb=> hQ _ ?_⟩
  all_goals
   subst hb
   first | subst hn | skip
   rw[<-hm]
   simp[*]
theorem Cq:aV mV mF S (a1 I32) (fun c=> 0<=c.val/\c.val < 128) (enc (X:=List I32)) fun c y=> y=Mp false c:=by
 rintro⟨c⟩ ⟨c0,c1⟩
 simp[mV,mF, -Bool.forall_bool, -Bool.exists_bool]
 exact eR [⟨c⟩] (by simp) rfl
def Mb (f:Bool) (x:Rx×B):Prop:= ∃y,xg x.1 x.2 f=some y
def UN (f:Bool) (x:Rx×B) (y:Bool):Prop:=xg x.1 x.2 f=some y
abbrev Hk (f:Bool):Spc:=cC (a2 Rx B) (Mb f) (enc (X:=Bool)) (UN f)
theorem Ge (h1:S eC=Kv):aV pQ pi S (a2 Rx B) (Mb false) (enc (X:=Bool)) (UN false):=by
 rintro⟨x,s⟩ hp
 have hp':Xc (x,s,false):=hp
 simp[pQ,pi,h1,hp', -Bool.forall_bool, -Bool.exists_bool]
 exact fun y hy=> hy
theorem yf (h1:S eC=Kv):aV kJ kq S (a2 Rx B) (Mb true) (enc (X:=Bool)) (UN true):=by
 rintro⟨x,s⟩ hp
 have hp':Xc (x,s,true):=hp
 simp[kJ,kq,h1,hp', -Bool.forall_bool, -Bool.exists_bool]
 exact fun y hy=> hy
end Go.Gv
