/- W141 -/
import Derived.Test.YtfpmgnnippjblaaGreatDoorGa16
set_option linter.all false
set_option maxRecDepth 100000
set_option maxHeartbeats 0
open Bool renaming forall_bool → fB', exists_bool → eB'
namespace Go.Gv
section
open Cod (enc dec)
variable {S S0:Nat->Spc}
abbrev L6(n:Nat):Spc:=qik (a1 Rx) (enc (X:=Prt)) (EO n).b
abbrev qeX(n:Nat):Spc:=qik (a1 Rx) (enc (X:=Prt)) (EO n).r
abbrev Zb(n:Nat):Spc:=qik (a2 Rx Int) (enc (X:=Prt)) (EO n).o
def TP{X:Type}{l:List X}{k:Nat}(h:k<l.length):∃x,l[k]? =some x:=⟨_,qBe h⟩
def ud{X:Type}{l:List X}{k:Nat}{x:X}(h:l[k]? =some x):l.drop k=x::l.drop (k+1):=by
 obtain⟨h1,h2⟩:=qBc.1 h;rw[qBU h1,h2]
set_option maxHeartbeats 1000000 in
theorem qiM(n:Nat)(h1:S db=L6 n)(h2:S jd=qeX n)(h3:S dy=Le):Jr cJ cG S (a1 Rx) (enc (X:=Prt)) (EO (n+1)).b:=by
 rintro b v v' t ⟨op,mn,mx,rs,ks⟩ r hF;replace hF:qn8 (EO n).b (EO n).r t ⟨op,mn,mx,rs,ks⟩=some r:=hF;unfold qn8 at hF;simp only at hF;split at hF
 ·cases hF
 rename_i hok;have hok1:t.lvs.length<=1000/\t.fol.length<=1000:=by
  cases hb:SG t with
  |true=>exact of_decide_eq_true hb
  |false=>exact absurd (.inl hb) hok
 have hkl:ks.length<=1000:=by
  have:¬1000<ks.length:=λh=>hok (.inr h)
  omega
 obtain⟨hlv,hfo⟩:=hok1;have hkl':(ks.length:Int)<=9223372036854775807:=by omega
 have hlv':(t.lvs.length:Int)<=9223372036854775807:=by omega
 split at hF
 ·rename_i e;subst e;obtain rfl:=qBl hF;simp[cJ,cG,xo,pJ,pK,uh,hlv',-fB',-eB'];refineλb1=>⟨by omega,by omega,λw=>⟨by omega,by omega,λw'=>?_⟩⟩
  exact xE w w' ⟨t.lvs++ [rs],t.fi,t.la,t.fol++ [⟨0⟩],t.nul⟩ ⟨⟨RN .u64 1 t.lvs.length⟩,⟨RN .u64 1 t.lvs.length⟩,false⟩ rfl rfl (by simp[pJ,ak]) (by simp[pK,ak]) ⟨rfl,rfl⟩
 rename_i e1;split at hF
 ·rename_i e;subst e;simp[cJ,cG,xo,pJ,pK,uh,hkl',-fB',-eB'];intro b4 b6;refine ah (X:=Tbk×Prt×Value×Value) [0,4,6,50] [4] ks.length (λk x=>qrL (EO n).b (ks.drop k) x.1 x.2.1=some r) (λx=>[]) (λx=>[(0, .box b [.own 990 x.2.2.1, .v (.int .u64 x.1.fi.val), .v (.int .u64 x.1.la.val), .own 991 x.2.2.2, .v (.bool x.1.nul)]),(990, .row x.2.2.1 eF 1 (x.1.lvs.map enc)),(991, .row x.2.2.2 fA 1 (x.1.fol.map enc)),(6, .box b6 [.v (.int .u64 x.2.1.first.val), .v (.int .u64 x.2.1.last.val), .v (.bool x.2.1.nul)])]) (t,Eh,v,v') (by simpa using hF) ?_ ?_ (hh:=by simp[Eh])
  ·rintro k ⟨t,p,w,w'⟩ hk hx;obtain⟨y,hy⟩:=TP hk;obtain⟨_,hgy⟩:=qBc.1 hy;rw[ud hy,qrL]at hx;obtain⟨q,hq,hx⟩:=qBb.1 hx;obtain⟨c,hc,hx⟩:=qBb.1 hx;simp[hk,hy,hgy,h1,h3,hq,hc,-fB',-eB'];exactλu u'=>⟨c.1,c.2,hx,u,u', .inl ⟨rfl,rfl,rfl,rfl,rfl⟩, .inl ⟨rfl,rfl⟩, .inl ⟨rfl,rfl⟩, .inl ⟨rfl,rfl,rfl⟩⟩
  ·rintro⟨t,p,w,w'⟩ hx;rw[qB3,qrL]at hx;obtain rfl:=qBl hx;simp[-fB',-eB'];exact xE w w' t p rfl rfl rfl rfl ⟨rfl,rfl⟩
 rename_i e2;split at hF
 ·rename_i e;subst e;simp[cJ,cG,xo,pJ,pK,uh,hkl',-fB',-eB'];intro b4 b9;refine ah (X:=Tbk×Prt×Value×Value) [0,4,9,67] [4] ks.length (λk x=>qdY (EO n).b (ks.drop k) x.1 x.2.1=some r) (λx=>[]) (λx=>[(0, .box b [.own 990 x.2.2.1, .v (.int .u64 x.1.fi.val), .v (.int .u64 x.1.la.val), .own 991 x.2.2.2, .v (.bool x.1.nul)]),(990, .row x.2.2.1 eF 1 (x.1.lvs.map enc)),(991, .row x.2.2.2 fA 1 (x.1.fol.map enc)),(9, .box b9 [.v (.int .u64 x.2.1.first.val), .v (.int .u64 x.2.1.last.val), .v (.bool x.2.1.nul)])]) (t,qwE,v,v') (by simpa using hF) ?_ ?_ (hh:=by simp[qwE])
  ·rintro k ⟨t,p,w,w'⟩ hk hx;obtain⟨y,hy⟩:=TP hk;obtain⟨_,hgy⟩:=qBc.1 hy;rw[ud hy,qdY]at hx;obtain⟨q,hq,hx⟩:=qBb.1 hx;simp[hk,hy,hgy,h1,hq,-fB',-eB'];refineλu u'=>⟨λhn=>⟨q.1,_,hx,u,u', .inl ⟨rfl,rfl,rfl,rfl,rfl⟩, .inl ⟨rfl,rfl⟩, .inl ⟨rfl,rfl⟩, .inl ⟨rfl,rfl,by simp[hn]⟩⟩,λhn=>⟨q.1,_,hx,u,u', .inl ⟨rfl,rfl,rfl,rfl,rfl⟩, .inl ⟨rfl,rfl⟩, .inl ⟨rfl,rfl⟩, .inl ⟨rfl,rfl,by simp[hn]⟩⟩⟩
  ·rintro⟨t,p,w,w'⟩ hx;rw[qB3,qdY]at hx;obtain rfl:=qBl hx;simp[-fB',-eB'];exact xE w w' t p rfl rfl rfl rfl ⟨rfl,rfl⟩
 rename_i e3;simp[cJ,cG,xo,pJ,pK,uh,h2,e1,e2,e3,hF,-fB',-eB'];intro b1 w w';exact xE w w' r.1 r.2 rfl rfl rfl rfl rfl
def xx{t:Tbk}(h:SG t≠false):t.lvs.length<=1000/\t.fol.length<=1000:=by
 cases hb:SG t with
 |true=>exact of_decide_eq_true hb
 |false=>exact absurd hb h
set_option maxHeartbeats 1000000 in
theorem YG(n:Nat)(h1:S db=L6 n)(h2:S eB=Zb n)(h3:S dy=Le):Jr cO cL S (a2 Rx Int) (enc (X:=Prt)) (EO (n+1)).o:=by
 rintro b v v' t ⟨y,m⟩ r hF;replace hF:qmY (EO n).b (EO n).o t ⟨y,m⟩=some r:=hF;unfold qmY at hF;simp only at hF;split at hF
 ·cases hF
 rename_i hok;have hok1:=xx λh=>hok (.inr (.inr h))
 have hm0:0<=m:=by have:¬m< 0:=λh=>hok (.inl h);omega
 have hm1:m<=100:=by have:¬100<m:=λh=>hok (.inr (.inl h));omega
 obtain⟨hlv,hfo⟩:=hok1;have hlv':(t.lvs.length:Int)<=9223372036854775807:=by omega
 split at hF
 ·rename_i e;subst e;obtain rfl:=qBl hF;simp[cO,cL,xo,pJ,pK,uh,-fB',-eB'];intro b1;exact xE v v' t Eh rfl rfl rfl rfl ⟨rfl,rfl⟩
 rename_i e0;obtain⟨q,hq,hF⟩:=qBb.1 hF;split at hF
 ·cases hF
 rename_i hok2;have hok3:=xx hok2;obtain⟨hlq,hfq⟩:=hok3;have hlq':(q.1.lvs.length:Int)<=9223372036854775807:=by omega
 split at hF
 ·rename_i e;obtain rfl:=qBl hF;have e':(q.1.lvs.length:Int)=t.lvs.length:=by omega
  simp[cO,cL,xo,pJ,pK,uh,h1,hq,e0,hlv',hlq',e,e',-fB',-eB'];intro b1 w w';exact xE w w' q.1 Eh rfl rfl rfl rfl ⟨rfl,rfl⟩
 rename_i e;obtain⟨c,hc,hF⟩:=qBb.1 hF;obtain⟨l,hl,hF⟩:=qBk.1 hF;subst hF;have e':¬(q.1.lvs.length:Int)=t.lvs.length:=by omega
 have hin:InR .i64 (m -1):=by simp only[InR];omega
 simp[cO,cL,xo,pJ,pK,uh,h1,h2,h3,hq,hc,hl,e0,hlv',hlq',e,e',hin,-fB',-eB'];exactλb1 w w'=>xE w w' l.1 _ rfl rfl rfl rfl ⟨rfl,rfl⟩
def qlt(b:Tbk->Rx->Option (Tbk×Prt))(o:Tbk->Rx×Int->Option (Tbk×Prt))(y:Rx)(mn mx:Int)(q:Tbk×Prt×Bool):Option (Tbk×Prt):=
 if q.2.2=true then some (q.1,Eh)else
  if mx< 0/\mn=0 then(b q.1 y).bind λr=>(Gy r.1 (r.2.last,r.2.first)).map λl=>(l.1, { r.2 with nul:=true })else
  if mn<mx then(o q.1 (y,mx -mn)).bind λr=>zR r.1 (q.2.1,r.2)else some (q.1,q.2.1)
set_option maxHeartbeats 2000000 in
theorem qed(n:Nat)(h1:S db=L6 n)(h2:S eB=Zb n)(h3:S dy=Le)(h4:S gm=RQ):Jr iy ia S (a1 Rx) (enc (X:=Prt)) (EO (n+1)).r:=by
 rintro b v v' t ⟨op,mn,mx,rs,ks⟩ r hF;replace hF:qfx (EO n).b (EO n).o t ⟨op,mn,mx,rs,ks⟩=some r:=hF;unfold qfx at hF;simp only at hF;split at hF
 ·cases hF
 rename_i y ks';split at hF
 ·cases hF
 rename_i hrng;obtain⟨q,hq,hF⟩:=qBb.1 hF;have hF:qlt (EO n).b (EO n).o y mn mx q=some r:=hF;have hm:mn=(mn.toNat:Int):=by omega
 generalize mn.toNat=m at hm hq;subst hm;have hm':(m:Int)<=9223372036854775807:=by omega
 have hpos:(0:Int)<((y::ks').length:Int):=by simp
 simp[iy,ia,xo,pJ,pK,uh,hm',-fB',-eB'];intro b4 b5;refine ah (X:=Tbk×Prt×Value×Value) [0,3,4,5] [4] m (λk x=>(qp3 (EO n).b y mx (m -k) x.1 x.2.1).bind (qlt (EO n).b (EO n).o y m mx)=some r) (λx=>[]) (λx=>[(0, .box b [.own 990 x.2.2.1, .v (.int .u64 x.1.fi.val), .v (.int .u64 x.1.la.val), .own 991 x.2.2.2, .v (.bool x.1.nul)]),(990, .row x.2.2.1 eF 1 (x.1.lvs.map enc)),(991, .row x.2.2.2 fA 1 (x.1.fol.map enc)),(5, .box b5 [.v (.int .u64 x.2.1.first.val), .v (.int .u64 x.2.1.last.val), .v (.bool x.2.1.nul)])]) (t,Eh,v,v') (by simp[hq,hF]) ?_ ?_ (hh:=by simp[Eh])
 ·rintro k ⟨t,p,w,w'⟩ hk hx;rw[show m -k=(m - (k+1)) +1 by omega,qp3]at hx;simp only at hx;split at hx
  ·cases hx
  rename_i hok;obtain⟨hlv,hfo⟩:=xx hok;have hlv':(t.lvs.length:Int)<=9223372036854775807:=by omega
  cases hb:(EO n).b t y with
  |none=>rw[hb]at hx;cases hx
  |some c=>
  rw[hb,qBz]at hx;split at hx
  ·cases hx
  rename_i hok2;obtain⟨hlq,hfq⟩:=xx hok2;have hlq':(c.1.lvs.length:Int)<=9223372036854775807:=by omega
  split at hx
  ·rename_i e;have e':(c.1.lvs.length:Int)=t.lvs.length:=by omega
   simp[hk,h1,hb,hlv',hlq',e,e',-fB',-eB'];have hx:some (c.1,Eh)=some r:=hx;obtain rfl:=qBl hx;exactλu u'=>xE u u' c.1 Eh rfl rfl rfl rfl rfl
  rename_i e;have e':¬(c.1.lvs.length:Int)=t.lvs.length:=by omega
  have hin:InR .i64 ((m:Int) -1):=by simp only[InR];omega
  by_cases hmx:mx< 0
  ·by_cases hkm:m - (k+1)=0
   ·rw[if_pos ⟨hmx,hkm⟩]at hx;have hkm':(k:Int)=m -1:=by omega
    cases hl:Gy c.1 (c.2.last,c.2.first)with
    |none=>rw[hl]at hx;cases hx
    |some l=>
    rw[hl,qBz]at hx;cases hc:zR l.1 (p,c.2)with
    |none=>rw[hc]at hx;cases hx
    |some d=>
    rw[hc,qBz]at hx;simp[hk,h1,h3,h4,hb,hl,hc,hlv',hlq',e,e',hin,hmx,hkm',-fB',-eB'];exactλu u'=>⟨d.1,d.2,hx,u,u', .inl ⟨rfl,rfl,rfl,rfl,rfl⟩, .inl ⟨rfl,rfl⟩, .inl ⟨rfl,rfl⟩, .inl ⟨rfl,rfl,rfl⟩⟩
   ·rw[if_neg (λh=>hkm h.2)]at hx;have hkm':¬(k:Int)=m -1:=by omega
    rw[qBz]at hx;cases hc:zR c.1 (p,c.2)with
    |none=>rw[hc]at hx;cases hx
    |some d=>
    rw[hc,qBz]at hx;simp[hk,h1,h3,h4,hb,hc,hlv',hlq',e,e',hin,hmx,hkm',-fB',-eB'];exactλu u'=>⟨d.1,d.2,hx,u,u', .inl ⟨rfl,rfl,rfl,rfl,rfl⟩, .inl ⟨rfl,rfl⟩, .inl ⟨rfl,rfl⟩, .inl ⟨rfl,rfl,rfl⟩⟩
  ·rw[if_neg (λh=>hmx h.1)]at hx;rw[qBz]at hx;cases hc:zR c.1 (p,c.2)with
   |none=>rw[hc]at hx;cases hx
   |some d=>
   rw[hc,qBz]at hx;simp[hk,h1,h3,h4,hb,hc,hlv',hlq',e,e',hmx,-fB',-eB'];exactλu u'=>⟨d.1,d.2,hx,u,u', .inl ⟨rfl,rfl,rfl,rfl,rfl⟩, .inl ⟨rfl,rfl⟩, .inl ⟨rfl,rfl⟩, .inl ⟨rfl,rfl,rfl⟩⟩
 ·rintro⟨t,p,w,w'⟩ hx;simp only[qCR,qp3,qBz]at hx;have hx:(if mx< 0/\(m:Int)=0 then((EO n).b t y).bind λr=>(Gy r.1 (r.2.last,r.2.first)).map λl=>(l.1, { r.2 with nul:=true })else
   if(m:Int)<mx then((EO n).o t (y,mx -m)).bind λr=>zR r.1 (p,r.2)else some (t,p))=some r:=hx
  by_cases hA:mx< 0/\(m:Int)=0
  ·rw[if_pos hA]at hx;obtain⟨hmx,hm0⟩:=hA;obtain⟨c,hb,hx⟩:=qBb.1 hx;obtain⟨l,hl,rfl⟩:=qBk.1 hx;have hm0':m=0:=by omega
   subst hm0';simp[h1,h4,hb,hl,hmx,-fB',-eB'];exactλu u'=>xE u u' l.1 _ rfl rfl rfl rfl ⟨rfl,rfl⟩
  ·rw[if_neg hA]at hx;by_cases hB:(m:Int)<mx
   ·rw[if_pos hB]at hx;obtain⟨c,hb,hx⟩:=qBb.1 hx;have n0:¬mx< 0:=by omega
    have hin:InR .i64 (mx -m):=by simp only[InR];omega
    simp[h2,h3,hb,hx,n0,hB,hin,-fB',-eB'];exactλu u'=>xE u u' r.1 r.2 rfl rfl rfl rfl rfl
   ·rw[if_neg hB]at hx;obtain rfl:=qBl hx;by_cases hmx:mx< 0
    ·have hm0:¬(m:Int)=0:=λh=>hA ⟨hmx,h⟩
     have hm0':¬m=0:=by omega
     simp[hmx,hm0,hm0',hB,-fB',-eB'];exact xE w w' t p rfl rfl rfl rfl ⟨rfl,rfl⟩
    ·simp[hmx,hB,-fB',-eB'];exact xE w w' t p rfl rfl rfl rfl ⟨rfl,rfl⟩
end
section
open Cod (enc dec)
def Z0(t:Tbk):D:= .cptr [enc t.lvs,enc t.fi,enc t.la,enc t.fol,enc t.nul] 0
def qg5{t t':Tbk}(h:Z0 t=Z0 t'):t=t':=by
 obtain⟨a1,a2,a3,a4,a⟩:=t;obtain⟨b1,b2,b,c,d⟩:=t';unfold Z0 at h;injection h with h1 h2;simp only[qB6]at h1;obtain⟨h1,h2,h3,h4,h5,_⟩:=h1;have h1:=cS h1;have h2:=cS h2;have h3:=cS h3;have h4:=cS h4;have h5:=cS h5;subst h1;subst h2;subst h3;subst h4;subst h5;rfl
open Classical in
noncomputable instance:Cod Tbk where
 wd:=1
 enc:=Z0
 dec d:=if h:∃t,d=Z0 t then some h.choose else none
 kn _:=rfl
 wid _:=rfl
 dec_enc t:=by
  have h:∃t',Z0 t=Z0 t':=⟨t,rfl⟩
  rw[dif_pos h];exact congrArg some (qg5 h.choose_spec).symm
 le d x h:=by
  split at h
  ·rename_i h';cases h;rw[h'.choose_spec.symm];exact .same _
  ·cases h
@[simp] theorem quH(t:Tbk):enc t= .cptr [enc t.lvs,enc t.fi,enc t.la,enc t.fol,enc t.nul] 0:=i' rfl
@[simp] theorem quP(l:List (List Rng))(f a:Int)(fo:List U64)(n:Bool):dec (X:=Tbk) (.cptr [.list 1 (l.map enc), .v (.int .u64 f), .v (.int .u64 a), .list 1 (fo.map enc), .v (.bool n)] 0)=some ⟨l,⟨f⟩,⟨a⟩,fo,n⟩:=Cod.dec_enc (X:=Tbk) ⟨l,⟨f⟩,⟨a⟩,fo,n⟩
variable {S S0:Nat->Spc}
def qkZ(n:Nat)(x:Rx):Prop:=(qi5 n x).isSome=true
def qoo(n:Nat)(x:Rx)(t:Tbk):Prop:=qi5 n x=some t
noncomputable abbrev qlq(n:Nat):Spc:=aA (a1 Rx) (qkZ n) (enc (X:=Tbk)) (qoo n)
theorem qvW(n:Nat)(h1:S db=L6 n):aq zz yt S (a1 Rx) (qkZ n) (enc (X:=Tbk)) (qoo n):=by
 rintro x d;obtain⟨t,c⟩:=qBW.1 d;obtain⟨q,h,rfl⟩:=qBk.1 c;have a:(EO n).b ⟨[],⟨0⟩,⟨0⟩, [],false⟩ x=some q:=h;simp[zz,yt,-fB',-eB'];refine kD (X:=Nat) [1] [] [] [] (λ_=>True) (λb=>[(3, .bptr 6 b 0)]) (λb=>[(6, .box b [.own 990 (.slice none 0 0), .v (.int .u64 0), .v (.int .u64 0), .own 991 (.slice none 0 0), .v (.bool false)]),(990, .row (.slice none 0 0) eF 1 []),(991, .row (.slice none 0 0) fA 1 [])]) [6,990,991] (λ_=>rfl) (by decide) ?_ ?_
 ·simp;refineλb=>⟨b, .same _, .inl ?_,by simp[isNilRow],by simp[isNilRow]⟩
  simp;exact⟨.nilown 990, .nilown 991⟩
 ·rintro b -;have j:(Res.row (.slice none 0 0) eF 1 []:Res)= .row (.slice none 0 0) eF 1 (([]:List (List Rng)).map enc):=rfl;have k:(Res.row (.slice none 0 0) fA 1 []:Res)= .row (.slice none 0 0) fA 1 (([]:List U64).map enc):=rfl;rw[j,k];simp[h1,a, -List.map_nil,-fB',-eB'];simp[a,-fB',-eB'];intro w w';refine kD (X:=Unit) [] [] [990,991] [] (λ_=>True) (λ_=>[(2, .bptr 6 b 0)]) (λ_=>[(6, .box b [enc q.1.lvs, .v (.int .u64 q.2.first.val), .v (.int .u64 q.2.last.val),enc q.1.fol, .v (.bool q.2.nul)])]) [6] (λ_=>rfl) (by decide) ?_ ?_
  ·simp;exact .inl ⟨fM (l:=q.1.lvs) eF rfl,fM (l:=q.1.fol) fA rfl⟩
  ·rintro - -;simp;refine br ⟨q.1.lvs,q.2.first,q.2.last,q.1.fol,q.2.nul⟩ ?_ c;exact .box rfl
def qic(x:Tbk×U64×Bool):Prop:=x.1.fol.length<=100000
def qh2(x:Tbk×U64×Bool)(y:U64):Prop:=y=Ba x.1 x.2.1 x.2.2
noncomputable abbrev qeY:Spc:=aA (a3 Tbk U64 Bool) qic (enc (X:=U64)) qh2
theorem qiN:aq fV fJ S (a3 Tbk U64 Bool) qic (enc (X:=U64)) qh2:=by
 rintro⟨⟨lv,fi,la,fo,d⟩,set,a⟩ hlen;have hlen:fo.length<=100000:=hlen;have hl:(fo.length:Int)<=9223372036854775807:=by omega
 cases a
 ·simp[fV,fJ,hl,-fB',-eB'];refine ah (X:=U64) [1,18] [] fo.length (λk m=>qlA set k (fo.drop k) m=qlA set 0 fo ⟨0⟩) (λm=>[(7,enc m)]) (λx=>[]) ⟨0⟩ (by simp) ?_ ?_
  ·rintro k m hk hm;obtain⟨f,b⟩:∃f,fo[k]? =some f:=⟨_,qBe hk⟩
   obtain⟨_,c⟩:=qBc.1 b;rw[qfW b]at hm;simp[hk,b,c,-fB',-eB'];exact⟨λhb=>⟨qjB m f,by simpa [hb]using hm,rfl⟩,λhb=>⟨m,by simpa [hb]using hm,rfl⟩⟩
  ·rintro m hm;rw[qB3,qlA]at hm;subst hm;simp[-fB',-eB'];exact br _ (.same _) rfl
 ·simp[fV,fJ,hl,-fB',-eB'];exact br _ (.same _) rfl
end
section
open Go.Proofs
def ui:CC:=gq Tryz.f273 [3] {} _
def tj:List ai:=[.tmp 6]
def Mz:FO qF [3] ui tj 88:=fo
def ul:CC:=gq Tryz.f210 [2] {} _
def tn:List ai:=[.tmp 4]
def MB:FO wa [2] ul tn 8:=fo
def qe:CC:=gq Tryz.f275 [] {} _
def pr:List ai:=[.tmp 2]
def In:FO dt [] qe pr 5:=fo
def my:CC:=gq Tryz.f209 [2] {} _
def lZ:List ai:=[.tmp 4]
def DZ:FO nQ [2] my lZ 8:=fo
def oq:CC:=gq Tryz.f274 [] {} _
def mY:List ai:=[.tmp 2]
def F6:FO cZ [] oq mY 43:=fo
open Cod (enc dec)
variable {S S0:Nat->Spc}
def aMt:fm (Rx×B×Bool):=⟨λds=>match ds with
 | [a,b, .clo f []]=>if f=dt then(dec a).bind λx=>(dec b).map λs=>(x,s,false)else if f=cZ then(dec a).bind λx=>(dec b).map λs=>(x,s,true)else none
 | _=>none,λx=>[enc x.1,enc x.2.1, .clo (if x.2.2=true then cZ else dt) []],λds x h=>by
 split at h
 ·rename_i a b f;split at h
  ·rename_i e;simp only[qBb,qBk]at h;obtain⟨x,c,s,hs,rfl⟩:=h;subst e;exact .cons (Cod.le _ _ c) (.cons (Cod.le _ _ hs) (.cons (.same _) .nil))
  ·split at h
   ·rename_i e;simp only[qBb,qBk]at h;obtain⟨x,c,s,hs,rfl⟩:=h;subst e;exact .cons (Cod.le _ _ c) (.cons (Cod.le _ _ hs) (.cons (.same _) .nil))
   grind
 grind⟩
@[simp] theorem qsb(x:Rx)(s:B)(f:Bool):aMt.view (x,s,f)=[enc x,enc s, .clo (if f=true then cZ else dt) []]:=i' rfl
@[simp] theorem qsd(a b:D):aMt.dec [a,b, .clo dt []]=(dec a).bind λx=>(dec b).map λs=>(x,s,false):=i' rfl
@[simp] theorem qsc(a b:D):aMt.dec [a,b, .clo cZ []]=(dec a).bind λx=>(dec b).map λs=>(x,s,true):=i' rfl
abbrev qcH:Spc:=aA (a1 Rx) (λx=>DF 50 x=true) (enc (X:=Int)) λx y=>y=0
abbrev qe0:Spc:=aA (a2 (List Rng) I32) (λ_=>True) (enc (X:=Bool)) λx y=>y=TE x.1 x.2.val
abbrev s_cpVal:Spc:=aA (a1 B) (λs=>wE s=true/\s.size<=1000) (enc (X:=Bool)) λ_ y=>y=true
abbrev qlr:Spc:=aA (a1 I32) (λc=>0<=c.val/\c.val< 128) (enc (X:=List I32)) λc y=>y=YM false c
abbrev qlp:Spc:=aA (a1 I32) (λc=>0<=c.val/\c.val< 128) (enc (X:=List I32)) λc y=>y=YM true c
def qkY(x:Rx×B×Bool):Prop:=∃y,yF x.1 x.2.1 x.2.2=some y
def qon(x:Rx×B×Bool)(y:Bool):Prop:=yF x.1 x.2.1 x.2.2=some y
abbrev qe1:Spc:=aA aMt qkY (enc (X:=Bool)) qon
def QS{s:B}(h:wE s=true){p:Nat}(hp:p<s.size):∃c:UInt8,s.data.toList[p]? =some c/\c.toNat< 128/\Utf8.decode s p=(c.toNat,1):=by
 have hl:p<s.data.toList.length:=by simp_all
 refine⟨s.data.toList[p],qBe hl,?_,?_⟩;grind [wE]
 ·have h1:(s[p]'hp).toNat< 128:=by
   have:=qBi.1 h _ (qCH hl);have h2:s.data[p].toNat< 128:=by grind
   exact h2
  have:=Go.decode_ascii s p hp h1;rw[this];rfl
set_option maxHeartbeats 2000000 in
theorem Ol(h1:S kI=qcH)(h2:S om=s_cpVal)(h3:S Bv=qlq 50)(h4:S lr=qeY)(h5:S pU=qe0)(h6:S dt=qlr)(h7:S cZ=qlp):
 aq ui tj S aMt qkY (enc (X:=Bool)) qon:=by
 rintro⟨x,s,f⟩ ⟨y,hy⟩;have hy0:yF x s f=some y:=hy;unfold yF at hy0;split at hy0
 rotate_left
 grind;rename_i hc;obtain⟨hv,ha,hsz⟩:=hc;obtain⟨t,ht,hy1⟩:=qBb.1 hy0;split at hy1
 rotate_left
 grind;rename_i hok;have hres:qqn t (YM f) (qkJ s.data.toList) ⟨0⟩ true=y:=qBl hy1;obtain⟨hlv,hfo⟩:=xx (t:=t) (by grind);have hOf:qoo 50 x t:=ht;have hPOf:qkZ 50 x:=by grind [qkZ]
 simp[ui,tj,h1,h2,h3,hv,ha,hsz,hPOf,-fB',-eB'];intro t' ht' b;obtain rfl:t=t':=by
  have h:qi5 50 x=some t':=ht';grind
 refine aF (X:=U64×Bool×Nat) [2,7,28] [] (λz=>qqn t (YM f) (qkJ (s.data.toList.drop z.2.2)) z.1 z.2.1=y/\z.2.2<=s.size) (λz=>[(8,enc z.1),(9,enc z.2.1)]) (λz=>[(28, .iter b s z.2.2)]) (λz=>s.size -z.2.2) (⟨0⟩,true,0) ⟨by grind,qBB _⟩ ?_;rintro⟨set,beg,pos⟩ ⟨hm,hp⟩;simp only at hm hp;by_cases hlt:pos<s.size
 ·obtain⟨c,hc,hc128,hdec⟩:=QS ha hlt;rw[ud hc]at hm;have hm:(if(qi0 (Ba t set beg) t.lvs (YM f ⟨(c.toNat:Int)⟩) ⟨0⟩).val=0 then false else qqn t (YM f) (qkJ (s.data.toList.drop (pos+1))) (qi0 (Ba t set beg) t.lvs (YM f ⟨(c.toNat:Int)⟩) ⟨0⟩) false)=y:=hm;have hN:qic (t,set,beg):=by show t.fol.length<=100000;omega
  have hq:qh2 (t,set,beg) (Ba t set beg):=rfl;have c0:(0:Int)<=(c.toNat:Int):=by omega
  have c1:(c.toNat:Int)< 128:=by omega
  have hvl:((YM f ⟨(c.toNat:Int)⟩).length:Int)<=9223372036854775807:=by
   have:(YM f ⟨(c.toNat:Int)⟩).length<=3:=by
    unfold YM;split
    ·unfold Nh;exact qBM (List.length_filter_le _ _) (by simp)
    ·simp
   omega
  have h8:S (if f=true then cZ else dt)=aA (a1 I32) (λc=>0<=c.val/\c.val< 128) (enc (X:=List I32)) λc y=>y=YM f c:=by
   cases f
   ·exact h6
   ·exact h7
  simp[hlt,hdec,h4,hN,h8,c0,c1,hvl,-fB',-eB'];intro nx hnx;obtain rfl:nx=Ba t set beg:=hnx;generalize Ba t set beg=nx at hm;generalize YM f ⟨(c.toNat:Int)⟩=vs at hm hvl;refine ah (X:=U64) [2,7,9,12,28,38] [28] vs.length (λk m=>qi0 nx t.lvs (vs.drop k) m=qi0 nx t.lvs vs ⟨0⟩) (λm=>[(8,enc m)]) (λ_=>[]) ⟨0⟩ (by simp) ?_ ?_
  ·rintro k m hk hm2;obtain⟨v,hvk⟩:=TP hk;obtain⟨_,hgv⟩:=qBc.1 hvk;rw[ud hvk,qi0]at hm2;have hlv':(t.lvs.length:Int)<=9223372036854775807:=by omega
   simp[hk,hvk,hgv,hlv',-fB',-eB'];refine ah (X:=U64) [2,7,9,12,14,28,38,39,40,47] [28] t.lvs.length (λk m'=>qoX nx v k (t.lvs.drop k) m'=qoX nx v 0 t.lvs m) (λm=>[(8,enc m)]) (λ_=>[]) m (by simp) ?_ ?_
   ·rintro j m' hj hm3;obtain⟨lf,hlf⟩:=TP hj;obtain⟨_,hgl⟩:=qBc.1 hlf;rw[ud hlf,qoX]at hm3;simp[hj,hlf,hgl,h5,-fB',-eB'];refine⟨λhb=>⟨λhc=>⟨_,by rw[if_pos (by simp[hb,hc])]at hm3;exact hm3,rfl⟩,λhc=>⟨m',by rw[if_neg (by simp[hc])]at hm3;exact hm3,rfl⟩⟩,λhb=>⟨m',by rw[if_neg (by simp[hb])]at hm3;exact hm3,rfl⟩⟩
   ·rintro m' hm3;rw[qB3,qoX]at hm3;subst hm3;simp[-fB',-eB'];exact⟨_,hm2,rfl⟩
  ·rintro m hm2;rw[qB3,qi0]at hm2;subst hm2;simp[-fB',-eB'];refine⟨λh0=>?_,λh0=>?_⟩
   ·rw[if_pos h0]at hm;subst hm;exact hy
   ·rw[if_neg h0]at hm;exact⟨_,false,pos+1,⟨hm,by omega⟩,⟨⟨rfl,rfl⟩, .inl rfl⟩,by omega⟩
 ·have hpe:pos=s.size:=by omega
  subst hpe;rw[qCB (by rw[qB5];exact qBj _)]at hm;have hm:((beg && t.nul)||decide (Yf .u64 set.val t.la.val≠0))=y:=hm;simp[-fB',-eB'];have hQ:∀w,w=y->qon (x,s,f) w:=λw e=>by subst e;exact hy
  refine⟨λhb=>⟨λhn=>hQ _ ?_,λhn=>hQ _ ?_⟩,λhb=>hQ _ ?_⟩
  all_goals
   subst hb
   first|subst hn|skip
   rw[<-hm];simp[*]
def J4:aq qe pr S (a1 I32) (λc=>0<=c.val/\c.val< 128) (enc (X:=List I32)) λc y=>y=YM false c:=by
 rintro⟨c⟩ ⟨a,c1⟩;simp[qe,pr,-fB',-eB'];exact br [⟨c⟩] (by simp) rfl
def Yp(f:Bool)(x:Rx×B):Prop:=∃y,yF x.1 x.2 f=some y
def qh3(f:Bool)(x:Rx×B)(y:Bool):Prop:=yF x.1 x.2 f=some y
abbrev qa2(f:Bool):Spc:=aA (a2 Rx B) (Yp f) (enc (X:=Bool)) (qh3 f)
def Oo(h1:S qF=qe1):aq ul tn S (a2 Rx B) (Yp false) (enc (X:=Bool)) (qh3 false):=by
 rintro⟨x,s⟩ hp;have a:qkY (x,s,false):=hp;simp[ul,tn,h1,a,-fB',-eB'];exactλy b=>b
def Fb(h1:S qF=qe1):aq my lZ S (a2 Rx B) (Yp true) (enc (X:=Bool)) (qh3 true):=by
 rintro⟨x,s⟩ hp;have a:qkY (x,s,true):=hp;simp[my,lZ,h1,a,-fB',-eB'];exactλy b=>b
end
section
open Go.Proofs
def oV:CC:=gq Tryz.f149 [] {} _
def nr:List ai:=[.tmp 6]
def MU:FO wk [] oV nr 25:=fo
def mF:CC:=gq Tryz.f86 [9,8,7,6,5] { cu:=[1] } _
def ml:List ai:=[.tmp 10]
def Ea:FO jv [9,8,7,6,5] mF ml 102:=fo
def kw:CC:=gq Tryz.f148 [5] {} _
def jM:List ai:=[.tmp 6]
def A8:FO aL [5] kw jM 13:=fo
def ku:CC:=gq Tryz.f157 [2] {} _
def jL:List ai:=[.tmp 3]
def A7:FO cA [2] ku jL 8:=fo
def lD:CC:=gq Tryz.f38 [2] {} _
def lg:List ai:=[.tmp 4, .tmp 5]
def CD:FO mu [2] lD lg 36:=fo
open Cod (enc dec)
variable {S S0:Nat->Spc}
def Ej(v s:B)(f:Bool):Option Bool:=(lj v).bind λx=>yF x s f
def qia(x:B×B×Bool):Prop:=∃y,Ej x.1 x.2.1 x.2.2=some y
def qlX(x:B×B×Bool)(y:Bool):Prop:=Ej x.1 x.2.1 x.2.2=some y
abbrev qaS:Spc:=aA (a3 B B Bool) qia (enc (X:=Bool)) qlX
def OJ(h1:S qG=If)(h2:S wa=qa2 false)(h3:S nQ=qa2 true):aq oV nr S (a3 B B Bool) qia (enc (X:=Bool)) qlX:=by
 rintro⟨v,s,f⟩ ⟨y,b⟩;have b:Ej v s f=some y:=b;obtain⟨x,a,hm⟩:=qBb.1 b;cases f
 ·have hp:Yp false (x,s):=⟨y,hm⟩
  simp[oV,nr,h1,h2,a,hp,-fB',-eB'];exactλz hz=>by show(lj v).bind _=_;rw[a];exact hz
 ·have hp:Yp true (x,s):=⟨y,hm⟩
  simp[oV,nr,h1,h3,a,hp,-fB',-eB'];exactλz hz=>by show(lj v).bind _=_;rw[a];exact hz
mutual
def dh:Cond->Cond| .mk op n a v l f ks=>if op=4\/op=6/\mR (.mk op n a v l f ks)=true then⟨1,eT,eT,eT,eT,false, []⟩else⟨op,n,a,v,l,f,C9 ks⟩
def C9:List Cond->List Cond|[]=>[]|k::ks=>dh k::C9 ks
end
def Qs:∀l:List Cond,C9 l=l.map dh
 | []=>by rfl
 |k::l=>by rw[C9,Qs l];rfl
def B9(x:Cond):dh x=if x.op=4\/x.op=6/\mR x=true then⟨1,eT,eT,eT,eT,false, []⟩else⟨x.op,x.name,x.arg,x.val,x.lab,x.fold,x.kids.map dh⟩:=by cases x;rw[dh,Qs]
abbrev Mf:Spc:=aA (a1 Cond) (λx=>∃n,bb x<=n) (enc (X:=Bool)) λx y=>y=mR x
abbrev Mh(n:Nat):Spc:=aA (a1 Cond) (λx=>bb x<=n/\cM x<=60) (enc (X:=Cond)) λx y=>y=dh x
abbrev qaW:Spc:=aA (a1 Cond) (λx=>∃n,bb x<=n/\cM x<=60) (enc (X:=Cond)) λx y=>y=dh x
def Xa{H:ab}{op:Int}{name arg val lab:B}{fold:Bool}{l:List Cond}{v:Value}(h:H 33=some (.row v gW 7 (l.map enc))):FrzTo H (.agg [.v (.int .i64 op), .v (.string name), .v (.string arg), .v (.string val), .v (.string lab), .v (.bool fold), .own 33 v]) (enc (Cond.mk op name arg val lab fold l)):=by
 simp;refine .agg rfl λk c c' h1 h2=>?_
 match k,h1,h2 with
 | 0,h1,h2|1,h1,h2|2,h1,h2|3,h1,h2|4,h1,h2|5,h1,h2=>simp_all
 | 6,h1,h2=>cases h1;cases h2;exact fM gW h
 |k+7,h1,_=>grind
theorem IG:∀l:List Cond,l.length<=fK l
 | []=>by simp
 | k::l=>by
   have:=IG l;grind [qC,fK]
set_option maxHeartbeats 1000000 in
theorem Fh(n:Nat)(h1:S cm=Mf)(h2:S fR=Mh n):aq dP dI S (a1 Cond) (λx=>bb x<=n+1/\cM x<=60) (enc (X:=Cond)) λx y=>y=dh x:=by
 rintro x ⟨hd,hn⟩;have hsm:∃n,bb x<=n:=⟨_,qBj _⟩
 have hany:∀H:ab,Fin (enc (X:=Cond)) (λy=>y=⟨1,eT,eT,eT,eT,false, []⟩) (D.agg [.v (.int .i64 1), .v (.string ⟨#[]⟩), .v (.string ⟨#[]⟩), .v (.string ⟨#[]⟩), .v (.string ⟨#[]⟩), .v (.bool false), .v (.slice none 0 0)]) H:=λH=>by
  refine br ⟨1,eT,eT,eT,eT,false, []⟩ ?_ rfl;simp[eT];refine .agg rfl λk c c' h1 h2=>?_
  match k,h1,h2 with
  | 0,h1,h2|1,h1,h2|2,h1,h2|3,h1,h2|4,h1,h2|5,h1,h2=>simp_all
  | 6,h1,h2=>cases h1;cases h2;simp
  |k+7,h1,_=>grind
 by_cases hc:x.op=4\/x.op=6/\mR x=true
 ·have hl:dh x=⟨1,eT,eT,eT,eT,false, []⟩:=by rw[B9,if_pos hc]
  rcases hc with e|⟨e,e'⟩;simp_all [dP,dI]
  ·obtain⟨op,name,arg,val,lab,fold,ks⟩:=x;simp_all [vc,Spc,Mf,Mh,Fin,dP,dI]
 ·have hl:dh x=⟨x.op,x.name,x.arg,x.val,x.lab,x.fold,x.kids.map dh⟩:=by rw[B9,if_neg hc]
  have e4:¬x.op=4:=λh=>hc (.inl h)
  obtain⟨op,name,arg,val,lab,fold,ks⟩:=x;simp only at hl e4;have hs:op=6->mR ⟨op,name,arg,val,lab,fold,ks⟩=false:=λh=>by
   grind
  have hkn:∀y∈ks,bb y<=n/\cM y<=60:=λy hy=>by
   have h1:=BQ (p:=⟨op,name,arg,val,lab,fold,ks⟩) hy;have h2:=B5 hy;grind [qC]
  have hks:ks.length<=60:=by
   grind [qC,IG]
  by_cases e6:op=6
  ·subst e6;have hs':=hs rfl;simp[dP,dI,h1,hsm,hs',hl,-fB',-eB'];intro b2 b3;refine kD (X:=Unit) [1,2] [2] [] [] (λ_=>True) (λ_=>[(3, .bptr 3 b3 0)]) (λ_=>[(3, .box b3 [.v (.int .i64 6), .v (.string name), .v (.string arg), .v (.string val), .v (.string lab), .v (.bool fold), .own 33 (.slice none 0 0)]),(33, .row (.slice none 0 0) gW 7 [])]) [3,33] (λ_=>rfl) (by decide) ?_ ?_
   ·simp;refine⟨.inl (.nilown 33),by simp[isNilRow]⟩
   rintro - -;simp[-fB',-eB'];intro hkl;refine ah (X:=Value×List Cond) [2,3,22] [2] ks.length (λk z=>z.2=(ks.take k).map dh/\z.2.length=k) (λz=>[]) (λz=>[(3, .box b3 [.v (.int .i64 6), .v (.string name), .v (.string arg), .v (.string val), .v (.string lab), .v (.bool fold), .own 33 z.1]),(33, .row z.1 gW 7 (z.2.map enc))]) (.slice none 0 0, []) ⟨rfl,rfl⟩ ?_ ?_
   ·rintro k ⟨v,l⟩ hk ⟨hl1,hl2⟩;simp only at hl1 hl2;obtain⟨y,hy⟩:=bD hk;obtain⟨_,hgy⟩:=qBc.1 hy;obtain⟨q1,q2⟩:=hkn y (qBf hy);have hk60:ks.length<=60:=hks;simp[h2,hk,hy,hgy,q1,q2,-fB',-eB'];refine⟨by omega,by omega,λv=>⟨v,l++ [dh y],⟨?_,by simp;omega⟩, .inl rfl, .inl ⟨rfl,by simp⟩⟩⟩;rw[hl1,<-List.map_take,au hy];simp
   ·rintro⟨v,l⟩ ⟨hl1,hl2⟩;simp only at hl1 hl2;rw[qBm]at hl1;simp[-fB',-eB'];exact br _ (Xa rfl) (by rw[hl1])
  ·simp[dP,dI,h1,hsm,e4,e6,hl,-fB',-eB'];intro b2 b3;refine kD (X:=Unit) [1,2] [2] [] [] (λ_=>True) (λ_=>[(3, .bptr 3 b3 0)]) (λ_=>[(3, .box b3 [.v (.int .i64 op), .v (.string name), .v (.string arg), .v (.string val), .v (.string lab), .v (.bool fold), .own 33 (.slice none 0 0)]),(33, .row (.slice none 0 0) gW 7 [])]) [3,33] (λ_=>rfl) (by decide) ?_ ?_
   ·simp;refine⟨.inl (.nilown 33),by simp[isNilRow]⟩
   rintro - -;simp[-fB',-eB'];intro hkl;refine ah (X:=Value×List Cond) [2,3,22] [2] ks.length (λk z=>z.2=(ks.take k).map dh/\z.2.length=k) (λz=>[]) (λz=>[(3, .box b3 [.v (.int .i64 op), .v (.string name), .v (.string arg), .v (.string val), .v (.string lab), .v (.bool fold), .own 33 z.1]),(33, .row z.1 gW 7 (z.2.map enc))]) (.slice none 0 0, []) ⟨rfl,rfl⟩ ?_ ?_
   ·rintro k ⟨v,l⟩ hk ⟨hl1,hl2⟩;simp only at hl1 hl2;obtain⟨y,hy⟩:=bD hk;obtain⟨_,hgy⟩:=qBc.1 hy;obtain⟨q1,q2⟩:=hkn y (qBf hy);have hk60:ks.length<=60:=hks;simp[h2,hk,hy,hgy,q1,q2,-fB',-eB'];refine⟨by omega,by omega,λv=>⟨v,l++ [dh y],⟨?_,by simp;omega⟩, .inl rfl, .inl ⟨rfl,by simp⟩⟩⟩;rw[hl1,<-List.map_take,au hy];simp
   ·rintro⟨v,l⟩ ⟨hl1,hl2⟩;simp only at hl1 hl2;rw[qBm]at hl1;simp[-fB',-eB'];exact br _ (Xa rfl) (by rw[hl1])
def featS:List B:=[⟨#[124]⟩,⟨#[124,112,124]⟩,⟨#[124,112,124,113,124]⟩,⟨#[124,113,124]⟩]
def Ph(s v:B):Option Bool:=if(featS.any λz=>decide (z=s))=true/\(v=⟨#[112]⟩\/v=⟨#[113]⟩)then some (s.data.toList.any λc=>decide (v.data.toList=[c]))else none
structure Py where
 c:Corpus
 tok:Int
 lb:List B
 bd:List Int
def qD(E:Py):Nat->Cond->Option Bool
 | 0=>λ_=>none
 | n+1=>λx=>
   if x.op=1 then some true else
   if x.op=2 then Ej x.val (qR E.c.toks E.tok (pS E.c.attrs x.name)) x.fold else
   if x.op=3 then Ph (qR E.c.toks E.tok (dA E.c.attrs x.name)) x.val else
   if x.op=4 then(if nK E.lb (λz=>decide (z=x.lab))< 0 then none else match E.bd[(nK E.lb λz=>decide (z=x.lab)).toNat]? with
    |some o=>some (decide (0<=o) && decide (qR E.c.toks E.tok (dA E.c.attrs x.name)=qR E.c.toks o (dA E.c.attrs x.arg)))
    |none=>none)else
   if x.op=5 then some (E.c.regs.any (vR x E.tok))else
   if x.op=6 then(match x.kids with|k::_=>(qD E n k).map not|[]=>none)else
   if(x.kids.all λk=>(qD E n k).isSome)=true then
    (if x.op=7 then some (!(x.kids.any λk=>!((qD E n k).getD false)))else some (x.kids.any λk=>(qD E n k).getD false))
   else none
def qpH(c:Corpus):Prop:=c.toks.length<=100000/\(∀r∈c.toks,r.length<=100000)/\c.attrs.length<=1000
abbrev HZ:=Corpus×Cond×Int×List B×List Int
def qg1(z:HZ):Py:=⟨z.1,z.2.2.1,z.2.2.2.1,z.2.2.2.2⟩
def qlZ(n:Nat)(z:HZ):Prop:=qpH z.1/\∃y,qD (qg1 z) n z.2.1=some y
def qlV(n:Nat)(z:HZ)(y:Bool):Prop:=qD (qg1 z) n z.2.1=some y
abbrev aH:fm HZ:=aE Corpus (a4 Cond Int (List B) (List Int))
abbrev Mi(n:Nat):Spc:=aA aH (qlZ n) (enc (X:=Bool)) (qlV n)
def qkD(c:Corpus):List D:=[.list 2 (c.attrs.map enc), .list 1 (c.toks.map enc), .list 4 (c.texts.map enc), .list 4 (c.regs.map enc), .list 4 (c.nodes.map enc), .list 1 (c.heads.map enc), .list 1 (c.rels.map enc)]
theorem qkC(c:Corpus): .agg (qkD c)=enc c:=by rfl
theorem qkB{x y:Corpus}(h:qkD x=qkD y):x=y:=cS (by grind [qkC])
def qhs(z:HZ):List D:=[.cptr (qkD z.1) 0, .cptr [enc z.2.2.1] 0, .cptr [enc z.2.2.2.1] 0, .cptr [enc z.2.2.2.2] 0]
def qij(z:HZ):List D:=enc z.2.1::qhs z
def qoI(z:HZ):List D:=[enc z.2.1, .cptr [.clo aL (qhs z)] 0]
def K9(z j:HZ)(h:qij z=qij j):z=j:=by
 obtain⟨a,b,c,d,e⟩:=z;obtain⟨k,b',c',l,p⟩:=j;unfold qij qhs at h;simp only[qB6,D.cptr.injEq,and_true]at h;grind [cS,qkB]
def qaz(z a:HZ)(h:qoI z=qoI a):z=a:=by
 unfold qoI at h;simp only[qB6,D.cptr.injEq,D.clo.injEq,and_true,true_and]at h;refine K9 z a ?_;grind [qij]
noncomputable abbrev aH1:fm HZ:=aX qij K9
noncomputable abbrev qAd:fm HZ:=aX qoI qaz
noncomputable abbrev Ze(n:Nat):Spc:=aA aH1 (qlZ n) (enc (X:=Bool)) (qlV n)
noncomputable abbrev qe8(n:Nat):Spc:=aA qAd (qlZ n) (enc (X:=Bool)) λz y=>∃b,qD (qg1 z) n z.2.1=some b/\y=!b
def qcs(n:Nat)(h1:S jv=Mi n):aq kw jM S aH1 (qlZ n) (enc (X:=Bool)) (qlV n):=by
 rintro z hz;simp_all [Hu,qij,qhs,qkD,kw,jM]
@[simp] theorem qvy(c:Corpus)(x:Cond)(tok:Int)(lb:List B)(bd:List Int):aH1.dec [.agg [.v (.int .i64 x.op), .v (.string x.name), .v (.string x.arg), .v (.string x.val), .v (.string x.lab), .v (.bool x.fold), .list 7 (x.kids.map enc)], .cptr [.list 2 (c.attrs.map enc), .list 1 (c.toks.map enc), .list 4 (c.texts.map enc), .list 4 (c.regs.map enc), .list 4 (c.nodes.map enc), .list 1 (c.heads.map enc), .list 1 (c.rels.map enc)] 0, .cptr [.v (.int .i64 tok)] 0, .cptr [.list 1 (lb.map enc)] 0, .cptr [.list 1 (bd.map enc)] 0]=some (c,x,tok,lb,bd):=by
 have h:=Jq qij K9 (c,x,tok,lb,bd);have e:qij (c,x,tok,lb,bd)=[.agg [.v (.int .i64 x.op), .v (.string x.name), .v (.string x.arg), .v (.string x.val), .v (.string x.lab), .v (.bool x.fold), .list 7 (x.kids.map enc)], .cptr [.list 2 (c.attrs.map enc), .list 1 (c.toks.map enc), .list 4 (c.texts.map enc), .list 4 (c.regs.map enc), .list 4 (c.nodes.map enc), .list 1 (c.heads.map enc), .list 1 (c.rels.map enc)] 0, .cptr [.v (.int .i64 tok)] 0, .cptr [.list 1 (lb.map enc)] 0, .cptr [.list 1 (bd.map enc)] 0]:=by simp[qij,qhs,qkD]
 rw[<-e];exact h
def qcr(n:Nat)(h1:S aL=Ze n):aq ku jL S qAd (qlZ n) (enc (X:=Bool)) λz y=>∃b,qD (qg1 z) n z.2.1=some b/\y=!b:=by
 rintro z hz;rw[Hu];obtain⟨c,x,tok,lb,bd⟩:=z;simp[qoI,qhs,qkD,ku,jL,h1,hz,-fB',-eB'];exactλy a=>a
abbrev qe9:Spc:=aA (a2 B B) (λx=>∃b,Ph x.1 x.2=some b) (enc (X:=Bool)) λx y=>Ph x.1 x.2=some y
set_option maxHeartbeats 4000000 in
theorem qiI(n:Nat)(h0:S0 aL=Ze n)(h0':S0 cA=qe8 n)(h1:S aL=Ze n)(h2:S bV=qcI Cond S0)(h3:S jw=Mj)(h4:S ol=VT)(h5:S wk=qaS)(h6:S bK=B1)(h7:S wj=qe9)(h8:S dx=RU)(h9:S ms=qfd):
 aq mF ml S aH (qlZ (n+1)) (enc (X:=Bool)) (qlV (n+1)):=by
 rintro⟨c,x,tok,lb,bd⟩ ⟨⟨z1,z2,z3⟩,y,hy⟩;simp only at z1 z2 z3;have hy0:qD ⟨c,tok,lb,bd⟩ (n+1) x=some y:=hy;have hQ:∀w,w=y->qlV (n+1) (c,x,tok,lb,bd) w:=λw e=>by subst e;exact hy
 clear hy;obtain⟨op,name,arg,val,lab,fold,ks⟩:=x;unfold qD at hy0;simp only at hy0;have hval:∀i k:Int,qpH c:=λ_ _=>⟨z1,z2,z3⟩
 simp[mF,ml,-fB',-eB'];refine kD (X:=Unit) [5,6,7,8,9] [] [11] [] (λ_=>True) (λ_=>[(11, .cptr [.clo aL (qhs (c,⟨op,name,arg,val,lab,fold,ks⟩,tok,lb,bd))] 0)]) (λ_=>[]) [] (λ_=>rfl) (by decide) ?_ ?_
 ·simp[qhs,qkD];exactλb=> .box rfl
 rintro - -;simp only[qhs,qkD];split at hy0;simp_all;rename_i e1;split at hy0
 ·rename_i e;subst e;have hM:qia (val,qR c.toks tok (pS c.attrs name),fold):=⟨y,hy0⟩
  simp[h3,h4,h5,z1,z2,z3,hM,-fB',-eB'];refine⟨z2,λw hw=>hQ _ (qBl (hw.symm.trans hy0))⟩
 rename_i e2;split at hy0
 ·rename_i e;subst e;have hM:∃b,Ph (qR c.toks tok (dA c.attrs name)) val=some b:=⟨y,hy0⟩
  simp[h6,h4,h7,z1,z2,z3,hM,-fB',-eB'];refine⟨z2,λw hw=>hQ _ (qBl (hw.symm.trans hy0))⟩
 rename_i e3;split at hy0
 ·rename_i e;subst e;split at hy0
  ·cases hy0
  rename_i hj;obtain⟨j,hjj⟩:∃j,j=nK lb λz=>decide (z=lab):=⟨_,rfl⟩
  rw[<-hjj]at hj hy0;cases ho:bd[j.toNat]? with
  |none=>rw[ho]at hy0;cases hy0
  |some o=>
  rw[ho]at hy0;have hy1:(decide (0<=o) && decide (qR c.toks tok (dA c.attrs name)=qR c.toks o (dA c.attrs arg)))=y:=qBl hy0;have j0:0<=j:=by omega
  obtain⟨hjl,hgo⟩:=qBc.1 ho;have j1:j<(bd.length:Int):=by omega
  by_cases h0o:0<=o
  ·simp[h8,<-hjj,j0,j1,ho,hgo,h0o,h6,h4,z1,z2,z3,-fB',-eB'];exact⟨⟨z2,hQ _ (by rw[<-hy1];simp[h0o])⟩,λh=>by omega⟩
  ·simp[h8,<-hjj,j0,j1,ho,hgo,h0o,-fB',-eB'];exactλ_=>hQ _ (by rw[<-hy1];simp[h0o])
 rename_i e4;split at hy0
 ·rename_i e;subst e;have hy1:=qBl hy0;simp[h9,-fB',-eB'];exact hQ _ hy1
 rename_i e5;split at hy0
 ·rename_i e;subst e;split at hy0
  ·rename_i k ks';obtain⟨b,hb,rfl⟩:=qBk.1 hy0;have hp:qlZ n (c,k,tok,lb,bd):=⟨⟨z1,z2,z3⟩,b,hb⟩
   simp[h1,hp,-fB',-eB'];intro w hw;have hw:qD ⟨c,tok,lb,bd⟩ n k=some w:=hw;rw[hb]at hw;cases hw;exact hQ _ rfl
  ·cases hy0
 rename_i e6;split at hy0
 rotate_left
 ·cases hy0
 rename_i hall;have hal:∀k∈ks,∃b,qD ⟨c,tok,lb,bd⟩ n k=some b:=λk hk=>qBW.1 (qBi.1 hall k hk)
 have hf2:FunOn S0 (.clo cA [.cptr [.clo aL (qhs (c,⟨op,name,arg,val,lab,fold,ks⟩,tok,lb,bd))] 0]) ks λk=>!((qD ⟨c,tok,lb,bd⟩ n k).getD false):=
  xD (f:=λk=>(c,k,tok,lb,bd)) h0' (λk _=>Jq qoI qaz (c,k,tok,lb,bd)) (λk hk=>⟨⟨z1,z2,z3⟩,hal k hk⟩) (λk hk y hy=>by
   obtain⟨b,h1,h2⟩:=hy;have h1:qD ⟨c,tok,lb,bd⟩ n k=some b:=h1;rw[h2,h1];rfl)
 have hf1:FunOn S0 (.clo aL (qhs (c,⟨op,name,arg,val,lab,fold,ks⟩,tok,lb,bd))) ks λk=>(qD ⟨c,tok,lb,bd⟩ n k).getD false:=
  xD (f:=λk=>(c,k,tok,lb,bd)) h0 (λk _=>Jq qij K9 (c,k,tok,lb,bd)) (λk hk=>⟨⟨z1,z2,z3⟩,hal k hk⟩) (λk hk y hy=>by
   have h1:qD ⟨c,tok,lb,bd⟩ n k=some y:=hy;rw[h1];rfl)
 split at hy0
 ·rename_i e;subst e;have hy1:=qBl hy0;simp[h2,-fB',-eB'];exact⟨⟨_,hf2⟩,λw hw=>hQ _ (by rw[hw _ hf2];exact hy1)⟩
 ·rename_i e7;have hy1:=qBl hy0;simp[h2,e1,e2,e3,e4,e5,e6,e7,-fB',-eB'];exact⟨⟨_,hf1⟩,λw hw=>hQ _ (by rw[hw _ hf1];exact hy1)⟩
def OS(c:Corpus)(x:Cond)(k:Nat):List Int:=((List.range k).filter λi:Nat=>(qD ⟨c,(i:Int), [], []⟩ 21 (dh x)).getD false).map λi:Nat=>(i:Int)
def FL(c:Corpus)(x:Cond):List Int:=OS c x c.toks.length
def PQ(c:Corpus)(x:Cond)(k:Nat):OS c x (k+1)=OS c x k++ (if(qD ⟨c,(k:Int), [], []⟩ 21 (dh x)).getD false=true then[(k:Int)]else[]):=by
 unfold OS;rw[List.range_succ,qCS,qCP];congr 1;simp only[List.filter];cases(qD ⟨c,(k:Int), [], []⟩ 21 (dh x)).getD false<;>rfl
def Vr(c:Corpus)(x:Cond)(k:Nat):(OS c x k).length<=k:=by
 unfold OS;rw[qBO];exact qBM (List.length_filter_le _ _) (by simp)
def JZ(z:Corpus×Cond):Prop:=qpH z.1/\cM z.2<=60/\bb z.2<=60/\qjC z.1.attrs [] (dh z.2)=true/\∀i:Nat,i<z.1.toks.length->∃y,qD ⟨z.1,(i:Int), [], []⟩ 21 (dh z.2)=some y
abbrev qls:Spc:=aA (a2 Corpus Cond) JZ (lH (Y:=List Int) (Z:=Int)) λz y=>y=(FL z.1 z.2,0)
theorem qek(h1:S oh=VO)(h2:S fR=qaW)(h3:S fS=Zh)(h4:S jv=Mi 21):aq lD lg S (a2 Corpus Cond) JZ (lH (Y:=List Int) (Z:=Int)) λz y=>y=(FL z.1 z.2,0):=by
 rintro⟨c,x⟩ ⟨⟨t,u,j⟩,hn,A,h,d⟩;simp only at t u j hn A h d;have hl:(c.toks.length:Int)<=9223372036854775807:=by omega
 have q:∃n,bb x<=n/\cM x<=60:=⟨_,qBj _,hn⟩
 simp[lD,lg,h1,h2,h3,hn,A,h,q,hl,j,-fB',-eB'];intro b;refine⟨⟨_,qBj _⟩,⟨h,j⟩,?_⟩;refine ah (X:=Value×List Int) [2,3] [3] c.toks.length (λk z=>z.2=OS c x k) (λz=>[(7, .own 33 z.1)]) (λz=>[(33, .row z.1 bP 1 (z.2.map enc))]) (.slice none 0 0, []) (by simp[OS]) ?_ ?_ (hh:=by simp[isNilRow])
 ·rintro k ⟨v,l⟩ hk a;simp only at a;obtain⟨y,r⟩:=d k hk;have hp:qlZ 21 (c,dh x,(k:Int), [], []):=⟨⟨t,u,j⟩,y,r⟩
  have hs:=PQ c x k;have s:=Vr c x k;rw[<-a]at hs s;have C:(if(qD ⟨c,(k:Int), [], []⟩ 21 (dh x)).getD false=true then[(k:Int)]else[])=if y=true then[(k:Int)]else[]:=by rw[r];rfl
  rw[C]at hs;simp[hk,h4,hp,-fB',-eB'];intro w p;have p:qD ⟨c,(k:Int), [], []⟩ 21 (dh x)=some w:=p;rw[r]at p;cases p;refine⟨λe=>⟨by omega,by omega,λv'=> .inl ?_⟩,λe=> .inl ?_⟩
  ·rw[hs,e];simp
  ·rw[hs,e];simp
 ·rintro⟨v,l⟩ a;simp only at a;simp[-fB',-eB'];have e:FL c x=l:=a.symm;rw[e];exact fM bP rfl
end
section
open Go.Proofs
def vo:CC:=gq Tryz.f11 [] {} _
def uW:List ai:=[.tmp 4]
def Wq:FO Ew [] vo uW 26:=fo
def valsA:List B:=[⟨#[97]⟩,⟨#[98]⟩,⟨#[97,46,42]⟩,⟨#[91,97,98,93]⟩,⟨#[88]⟩,⟨#[]⟩,⟨#[99,63]⟩,⟨#[97,124,98]⟩,⟨#[89]⟩,⟨#[111,46,42]⟩,⟨#[78]⟩,⟨#[97,124,88]⟩]
def wordsA:List B:=[⟨#[97]⟩,⟨#[98]⟩,⟨#[99]⟩,⟨#[65]⟩,⟨#[97,98]⟩,⟨#[]⟩,⟨#[88]⟩,⟨#[89]⟩,⟨#[116,104,101]⟩,⟨#[111,108,100]⟩,⟨#[109,97,110]⟩,⟨#[68]⟩,⟨#[65]⟩,⟨#[78]⟩,⟨#[124]⟩,⟨#[124,112,124]⟩,⟨#[124,112,124,113,124]⟩,⟨#[124,113,124]⟩]
def qpG:Bool:=valsA.all λv=>wordsA.all λw=>(Ej v w false).isSome && (Ej v w true).isSome
def qjN:qpG=true:=by kernel_rfl
def M2{v w:B}(a:v∈valsA)(b:w∈wordsA)(f:Bool):∃y,Ej v w f=some y:=by
 have h:=qBi.1 (qBi.1 qjN v a) w b;simp only[qBh]at h;cases f
 ·exact qBW.1 h.1
 ·exact qBW.1 h.2
open Cod (enc dec)
variable {S S0:Nat->Spc}
def qzL:Corpus:=⟨[⟨⟨#[119,111,114,100]⟩,false⟩,⟨⟨#[112,111,115]⟩,false⟩], [[⟨#[116,104,101]⟩,⟨#[68]⟩], [⟨#[111,108,100]⟩,⟨#[65]⟩], [⟨#[109,97,110]⟩,⟨#[78]⟩]], [⟨⟨#[116]⟩,0,3, []⟩], [], [], [], []⟩
def FM(a b:List Int):Bool:=decide (a=b)
abbrev qfg:Spc:=aA (a2 (List Int) (List Int)) (λx=>x.1.length<=100000/\x.2.length<=100000) (enc (X:=Bool)) λx y=>y=FM x.1 x.2
theorem YC:aq vo uW S (a2 (List Int) (List Int)) (λx=>x.1.length<=100000/\x.2.length<=100000) (enc (X:=Bool)) λx y=>y=FM x.1 x.2:=by
 rintro⟨a,b⟩ ⟨la,lb⟩;simp only at la lb;have p:(a.length:Int)<=9223372036854775807:=by omega
 have q:(b.length:Int)<=9223372036854775807:=by omega
 by_cases hl:a.length=b.length
 ·have c:(a.length:Int)=b.length:=by omega
  simp[vo,uW,p,q,hl,c,-fB',-eB'];refine ah (X:=Unit) [0,1] [] b.length (λk _=>a.take k=b.take k) (λ_=>[]) (λ_=>[]) () (by simp) ?_ ?_
  ·rintro k -hk u;have d:k<a.length:=by omega
   obtain⟨x,r⟩:=bD d;obtain⟨y,l⟩:=bD hk;obtain⟨_,s⟩:=qBc.1 r;obtain⟨_,t⟩:=qBc.1 l;have w:FM a b=decide (a=b):=rfl;by_cases h:x=y
   ·subst h;simp[hk,d,r,l,s,t,-fB',-eB'];rw[au r,au l,u]
   ·have j:FM a b=false:=by
     unfold FM;rw[decide_eq_false_iff_not];intro e;subst e;rw[r]at l;exact h (qBl l)
    simp[hk,d,r,l,s,t,h,j,-fB',-eB']
  ·rintro -u;rw[<-hl,qBm,hl,qBm]at u;have he:FM a b=true:=decide_eq_true u;simp[he,-fB',-eB']
 ·have c:¬(a.length:Int)=b.length:=by omega
  have j:FM a b=false:=by
   unfold FM;rw[decide_eq_false_iff_not];intro e;exact hl (by rw[e])
  simp[vo,uW,p,q,hl,c,j,-fB',-eB']
end
section
open Cod (enc dec)
variable {S:Nat->Spc}
abbrev zJ:Spc:=aA (a1 Int) (λ_=>True) enc λ_ y=>y=false
def Km:aq qr pI S (a1 Int) (λ_=>True) enc λ_ y=>y=false:=by
 rintro x -;simp[qr,pI]
def TG(a b:Int):Int:=if a<b then -1 else if b<a then 1 else 0
abbrev uV:Spc:=aA (a2 Int Int) (λ_=>True) enc λx y=>y=TG x.1 x.2
def Fo(h1:S rZ=zJ):aq mG mq S (a2 Int Int) (λ_=>True) enc λx y=>y=TG x.1 x.2:=by
 rintro⟨a,b⟩ -;simp_all [mG,mq,TG,if_neg]
abbrev F0:Spc:=aA (a1 (List Int)) (λ_=>True) enc λx y=>y=(x.find? (· ≠0)).getD 0
def Ru:aq wD vQ S (a1 (List Int)) (λ_=>True) enc λx y=>y=(x.find? (· ≠0)).getD 0:=by
 rintro l -;simp[wD,vQ];intro _;refine ah (X:=Unit) [3,6] [] l.length (λk _=>(l.find? λx=>!decide (x=0))=(l.drop k).find? λx=>!decide (x=0)) (λ_=>[]) (λ_=>[]) () (by simp) ?_ ?_
 ·intro k _ hk a;simp;refine⟨hk,λx b=>?_⟩;rw[cT b]at a;grind
 ·intro _ a;rw[qB3]at a;simp[a]
def II(x n:Int):Int:=if n< 1 then 0 else if x.tmod n< 0 then x.tmod n+n else x.tmod n
abbrev s_m_Mod:Spc:=aA (a2 Int Int) (λx=>x.2<=1000000000) enc λx y=>y=II x.1 x.2
def qiG:aq NM Mo S (a2 Int Int) (λx=>x.2<=1000000000) enc λx y=>y=II x.1 x.2:=by
 rintro⟨a,b⟩ hl;simp at hl;simp[NM,Mo,II];refine⟨λh1 h2=>by omega,λh1=>⟨by omega,λh2=>⟨?_,?_⟩,λh2=>?_⟩⟩
 ·have:=Int.lt_tmod_of_pos a (b:=b) (by omega);grind [InR]
 omega;omega
end
section
open Cod (enc dec)
variable {S S0:Nat->Spc}
def MZ(x n:Int)(h:1<=n):0<=II x n/\II x n<n:=by
 unfold II;rw[if_neg (by omega)];have h1:=Int.tmod_lt_of_pos x (show 0<n by omega);have h2: -n<x.tmod n:=by
  have h3:=Int.natAbs_tmod x n;have h4:x.natAbs % n.natAbs<n.natAbs:=qCw _ (by omega);omega
 split<;>omega
def qoV:CC:= .reg [
 .op (some 4) none (.mv (.const (.int .i64 0)))]
def qm6:CC:= .seq (.regd [
 .op (some 5) none (.mv (.tmp 0)),
 .op (some 6) none (.nilck (.tmp 5)),
 .op (some 7) none (.faddr 1 (.tmp 6)),
 .op (some 8) none (.load false 1 (.tmp 7)),
 .op (some 9) none (.mv (.tmp 0)),
 .op (some 10) none (.nilck (.tmp 9)),
 .op (some 11) none (.faddr 0 (.tmp 10)),
 .op (some 12) none (.load false 1 (.tmp 11)),
 .op (some 13) none (.len (.tmp 12))] [
 .op (some 14) none (.cmp .geq (.tmp 8) (.tmp 13))]) (.ite (.tmp 14) (.seq (.reg [
  .op (some 4) none (.mv (.const (.int .i64 0)))]) .ret) .skip)
def qlC:CC:= .reg [
 .op (some 15) none (.mv (.tmp 0)),
 .op (some 16) none (.nilck (.tmp 15)),
 .op (some 17) none (.faddr 1 (.tmp 16)),
 .op (some 18) none (.load false 1 (.tmp 17)),
 .op (some 19) none (.arith .add (.tmp 18) (.const (.int .i64 1))),
 .op (some 20) none (.nilck (.tmp 15)),
 .op (some 21) none (.faddr 1 (.tmp 20)),
 .op none none (.store none 1 (.tmp 21) (.tmp 19))]
def qoU:CC:= .seq (.regd [
 .op (some 22) none (.mv (.tmp 0)),
 .op (some 23) none (.nilck (.tmp 22)),
 .op (some 24) none (.faddr 0 (.tmp 23)),
 .op (some 25) none (.load false 1 (.tmp 24)),
 .op (some 26) none (.mv (.tmp 0)),
 .op (some 27) none (.nilck (.tmp 26)),
 .op (some 28) none (.faddr 1 (.tmp 27)),
 .op (some 29) none (.load false 1 (.tmp 28)),
 .op (some 30) none (.arith .sub (.tmp 29) (.const (.int .i64 1))),
 .op (some 31) none (.iaddr 1 (.tmp 25) (.tmp 30)),
 .op (some 32) none (.load false 1 (.tmp 31)),
 .op (some 33) none (.mv (.tmp 1))] [
 .op (some 34) none (.call vm [(.tmp 32),(.tmp 33)]),
 .op (some 4) none (.mv (.tmp 34))]) .ret
def qfV:bz uA= .seq qoV (.seq qm6 (.seq qlC qoU)):=rfl
def qqj:bz qoV=qoV:=rfl
def qqi:bz qm6=qm6:=rfl
def qqh:bz qlC=qlC:=rfl
def qqg:bz qoU=qoU:=rfl
def qlB(b:Nat)(s:Value)(i n:Int):Ex->Sg->ab->Prop:=λe a H=>match e with
 | .norm=>a 0= .bptr 0 b 0/\a 1= .v (.int .i64 n)/\H 0=some (.box b [.v s, .v (.int .i64 (i+1))])/\i<slen s
 | .ret=>a 4= .v (.int .i64 0)/\H 0=some (.box b [.v s, .v (.int .i64 i)])
 | .ex _=>False
@[simp ↓] theorem qzz(b:Nat)(s:Value)(i n:Int)(a:Sg)(H:ab):qlB b s i n .norm a H=(a 0= .bptr 0 b 0/\a 1= .v (.int .i64 n)/\H 0=some (.box b [.v s, .v (.int .i64 (i+1))])/\i<slen s):=i' rfl
@[simp ↓] theorem qzy(b:Nat)(s:Value)(i n:Int)(a:Sg)(H:ab):qlB b s i n .ret a H=(a 4= .v (.int .i64 0)/\H 0=some (.box b [.v s, .v (.int .i64 i)])):=i' rfl
def qjG(b:Nat)(a:Option Addr)(len cap:Nat)(i n:Int)(h0:0<=i)(hl:(len:Int)<=9223372036854775807):vc S (.seq qoV (.seq qm6 qlC)) (qlB b (.slice a len cap) i n) (dr [.bptr 0 b 0, .v (.int .i64 n)]) (ak cX 0 (some (.box b [.v (.slice a len cap), .v (.int .i64 i)]))):=by
 simp[qoV,qm6,qlC,slen];intro h;exact⟨by simp only[InR];omega,h⟩
def qzx(n:Int):Ex->Sg->ab->Prop:=λe a H=>match e with
 | .ret=>∃y,a 4= .v (.int .i64 y)/\(n< 1/\y=0\/1<=n/\0<=y/\y<n)
 | _=>False
@[simp ↓] theorem qzw(n:Int)(a:Sg)(H:ab):qzx n .ret a H=(∃y,a 4= .v (.int .i64 y)/\(n< 1/\y=0\/1<=n/\0<=y/\y<n)):=i' rfl
def qjF(hm:S vm=s_m_Mod)(L:List Int)(i n:Int)(h0:0<=i)(hi:i<L.length)(hn:n<=1000000000)(hl:(L.length:Int)<=9223372036854775807):vc S qoU (qzx n) (dr [.cptr [.list 1 (L.map enc), .v (.int .i64 (i+1))] 0, .v (.int .i64 n)]) cX:=by
 obtain⟨x,b⟩:=aY (l:=L) (k:=i.toNat) (by omega);simp[qoU,hm];refine⟨by simp only[InR];omega,h0,hi,λa _=>⟨hn,?_⟩⟩;rcases Int.lt_or_le n 1 with h|h
 ·exact .inl ⟨h,by simp[II,h]⟩
 ·exact .inr ⟨h,MZ a n h⟩
end
end Go.Gv
