/- W141 -/
import Derived.Test.YtfpmgnnippjblaaGreatDoorGb16
set_option linter.all false
set_option maxRecDepth 100000
set_option maxHeartbeats 0
open Bool renaming forall_bool → fB', exists_bool → eB'
namespace Go.Gv
section
open Cod (enc dec)
variable {S S0:Nat->Spc}
abbrev Oq(n:Nat):Spc:=ql3 (a1 Rx) (enc (X:=Prt)) (GO n).b
abbrev qil(n:Nat):Spc:=ql3 (a1 Rx) (enc (X:=Prt)) (GO n).r
abbrev qci(n:Nat):Spc:=ql3 (a2 Rx Int) (enc (X:=Prt)) (GO n).o
def WM{X:Type}{l:List X}{k:Nat}(h:k<l.length):∃x,l[k]? =some x:=⟨_,qFQ h⟩
def vG{X:Type}{l:List X}{k:Nat}{x:X}(h:l[k]? =some x):l.drop k=x::l.drop (k+1):=by
 obtain⟨h1,h2⟩:=qFN.1 h;rw[qGz h1,h2]
set_option maxHeartbeats 1000000 in
theorem qmz(n:Nat)(h1:S du=Oq n)(h2:S jR=qil n)(h3:S dQ=Nm):Ls cV cR S (a1 Rx) (enc (X:=Prt)) (GO (n+1)).b:=by
 rintro b v v' t ⟨op,mn,mx,rs,ks⟩ r hF;replace hF:qr6 (GO n).b (GO n).r t ⟨op,mn,mx,rs,ks⟩=some r:=hF;unfold qr6 at hF;simp only at hF;split at hF
 ·cases hF
 rename_i hok;have hok1:t.lvs.length<=1000/\t.fol.length<=1000:=by
  cases hb:VE t with
  |true=>exact of_decide_eq_true hb
  |false=>exact absurd (.inl hb) hok
 have hkl:ks.length<=1000:=by
  have:¬1000<ks.length:=λh=>hok (.inr h)
  omega
 obtain⟨hlv,hfo⟩:=hok1;have hkl':(ks.length:Int)<=9223372036854775807:=by omega
 have hlv':(t.lvs.length:Int)<=9223372036854775807:=by omega
 split at hF
 ·rename_i e;subst e;obtain rfl:=qFY hF;simp[cV,cR,yV,qO,qP,vK,hlv',-fB',-eB'];refineλb1=>⟨by omega,by omega,λw=>⟨by omega,by omega,λw'=>?_⟩⟩
  exact zj w w' ⟨t.lvs++ [rs],t.fi,t.la,t.fol++ [⟨0⟩],t.nul⟩ ⟨⟨UH .u64 1 t.lvs.length⟩,⟨UH .u64 1 t.lvs.length⟩,false⟩ rfl rfl (by simp[qO,aj]) (by simp[qP,aj]) ⟨rfl,rfl⟩
 rename_i e1;split at hF
 ·rename_i e;subst e;simp[cV,cR,yV,qO,qP,vK,hkl',-fB',-eB'];intro b4 b6;refine ah (X:=Tbk×Prt×Value×Value) [0,4,6,50] [4] ks.length (λk x=>qvS (GO n).b (ks.drop k) x.1 x.2.1=some r) (λx=>[]) (λx=>[(0, .box b [.own 990 x.2.2.1, .v (.int .u64 x.1.fi.val), .v (.int .u64 x.1.la.val), .own 991 x.2.2.2, .v (.bool x.1.nul)]),(990, .row x.2.2.1 eW 1 (x.1.lvs.map enc)),(991, .row x.2.2.2 fV 1 (x.1.fol.map enc)),(6, .box b6 [.v (.int .u64 x.2.1.first.val), .v (.int .u64 x.2.1.last.val), .v (.bool x.2.1.nul)])]) (t,F7,v,v') (by simpa using hF) ?_ ?_ (hh:=by simp[F7])
  ·rintro k ⟨t,p,w,w'⟩ hk hx;obtain⟨y,hy⟩:=WM hk;obtain⟨_,hgy⟩:=qFN.1 hy;rw[vG hy,qvS]at hx;obtain⟨q,hq,hx⟩:=qFM.1 hx;obtain⟨c,hc,hx⟩:=qFM.1 hx;simp[hk,hy,hgy,h1,h3,hq,hc,-fB',-eB'];exactλu u'=>⟨c.1,c.2,hx,u,u', .inl ⟨rfl,rfl,rfl,rfl,rfl⟩, .inl ⟨rfl,rfl⟩, .inl ⟨rfl,rfl⟩, .inl ⟨rfl,rfl,rfl⟩⟩
  ·rintro⟨t,p,w,w'⟩ hx;rw[qGC,qvS]at hx;obtain rfl:=qFY hx;simp[-fB',-eB'];exact zj w w' t p rfl rfl rfl rfl ⟨rfl,rfl⟩
 rename_i e2;split at hF
 ·rename_i e;subst e;simp[cV,cR,yV,qO,qP,vK,hkl',-fB',-eB'];intro b4 b9;refine ah (X:=Tbk×Prt×Value×Value) [0,4,9,67] [4] ks.length (λk x=>qhe (GO n).b (ks.drop k) x.1 x.2.1=some r) (λx=>[]) (λx=>[(0, .box b [.own 990 x.2.2.1, .v (.int .u64 x.1.fi.val), .v (.int .u64 x.1.la.val), .own 991 x.2.2.2, .v (.bool x.1.nul)]),(990, .row x.2.2.1 eW 1 (x.1.lvs.map enc)),(991, .row x.2.2.2 fV 1 (x.1.fol.map enc)),(9, .box b9 [.v (.int .u64 x.2.1.first.val), .v (.int .u64 x.2.1.last.val), .v (.bool x.2.1.nul)])]) (t,qAY,v,v') (by simpa using hF) ?_ ?_ (hh:=by simp[qAY])
  ·rintro k ⟨t,p,w,w'⟩ hk hx;obtain⟨y,hy⟩:=WM hk;obtain⟨_,hgy⟩:=qFN.1 hy;rw[vG hy,qhe]at hx;obtain⟨q,hq,hx⟩:=qFM.1 hx;simp[hk,hy,hgy,h1,hq,-fB',-eB'];refineλu u'=>⟨λhn=>⟨q.1,_,hx,u,u', .inl ⟨rfl,rfl,rfl,rfl,rfl⟩, .inl ⟨rfl,rfl⟩, .inl ⟨rfl,rfl⟩, .inl ⟨rfl,rfl,by simp[hn]⟩⟩,λhn=>⟨q.1,_,hx,u,u', .inl ⟨rfl,rfl,rfl,rfl,rfl⟩, .inl ⟨rfl,rfl⟩, .inl ⟨rfl,rfl⟩, .inl ⟨rfl,rfl,by simp[hn]⟩⟩⟩
  ·rintro⟨t,p,w,w'⟩ hx;rw[qGC,qhe]at hx;obtain rfl:=qFY hx;simp[-fB',-eB'];exact zj w w' t p rfl rfl rfl rfl ⟨rfl,rfl⟩
 rename_i e3;simp[cV,cR,yV,qO,qP,vK,h2,e1,e2,e3,hF,-fB',-eB'];intro b1 w w';exact zj w w' r.1 r.2 rfl rfl rfl rfl rfl
def zd{t:Tbk}(h:VE t≠false):t.lvs.length<=1000/\t.fol.length<=1000:=by
 cases hb:VE t with
 |true=>exact of_decide_eq_true hb
 |false=>exact absurd hb h
set_option maxHeartbeats 1000000 in
theorem qbG(n:Nat)(h1:S du=Oq n)(h2:S eT=qci n)(h3:S dQ=Nm):Ls db cW S (a2 Rx Int) (enc (X:=Prt)) (GO (n+1)).o:=by
 rintro b v v' t ⟨y,m⟩ r hF;replace hF:qqS (GO n).b (GO n).o t ⟨y,m⟩=some r:=hF;unfold qqS at hF;simp only at hF;split at hF
 ·cases hF
 rename_i hok;have hok1:=zd λh=>hok (.inr (.inr h))
 have hm0:0<=m:=by have:¬m< 0:=λh=>hok (.inl h);omega
 have hm1:m<=100:=by have:¬100<m:=λh=>hok (.inr (.inl h));omega
 obtain⟨hlv,hfo⟩:=hok1;have hlv':(t.lvs.length:Int)<=9223372036854775807:=by omega
 split at hF
 ·rename_i e;subst e;obtain rfl:=qFY hF;simp[db,cW,yV,qO,qP,vK,-fB',-eB'];intro b1;exact zj v v' t F7 rfl rfl rfl rfl ⟨rfl,rfl⟩
 rename_i e0;obtain⟨q,hq,hF⟩:=qFM.1 hF;split at hF
 ·cases hF
 rename_i hok2;have hok3:=zd hok2;obtain⟨hlq,hfq⟩:=hok3;have hlq':(q.1.lvs.length:Int)<=9223372036854775807:=by omega
 split at hF
 ·rename_i e;obtain rfl:=qFY hF;have e':(q.1.lvs.length:Int)=t.lvs.length:=by omega
  simp[db,cW,yV,qO,qP,vK,h1,hq,e0,hlv',hlq',e,e',-fB',-eB'];intro b1 w w';exact zj w w' q.1 F7 rfl rfl rfl rfl ⟨rfl,rfl⟩
 rename_i e;obtain⟨c,hc,hF⟩:=qFM.1 hF;obtain⟨l,hl,hF⟩:=qFW.1 hF;subst hF;have e':¬(q.1.lvs.length:Int)=t.lvs.length:=by omega
 have hin:InR .i64 (m -1):=by simp only[InR];omega
 simp[db,cW,yV,qO,qP,vK,h1,h2,h3,hq,hc,hl,e0,hlv',hlq',e,e',hin,-fB',-eB'];exactλb1 w w'=>zj w w' l.1 _ rfl rfl rfl rfl ⟨rfl,rfl⟩
def qph(b:Tbk->Rx->Option (Tbk×Prt))(o:Tbk->Rx×Int->Option (Tbk×Prt))(y:Rx)(mn mx:Int)(q:Tbk×Prt×Bool):Option (Tbk×Prt):=
 if q.2.2=true then some (q.1,F7)else
  if mx< 0/\mn=0 then(b q.1 y).bind λr=>(IC r.1 (r.2.last,r.2.first)).map λl=>(l.1, { r.2 with nul:=true })else
  if mn<mx then(o q.1 (y,mx -mn)).bind λr=>BA r.1 (q.2.1,r.2)else some (q.1,q.2.1)
set_option maxHeartbeats 2000000 in
theorem qhu(n:Nat)(h1:S du=Oq n)(h2:S eT=qci n)(h3:S dQ=Nm)(h4:S gT=UK):Ls ji iL S (a1 Rx) (enc (X:=Prt)) (GO (n+1)).r:=by
 rintro b v v' t ⟨op,mn,mx,rs,ks⟩ r hF;replace hF:qi2 (GO n).b (GO n).o t ⟨op,mn,mx,rs,ks⟩=some r:=hF;unfold qi2 at hF;simp only at hF;split at hF
 ·cases hF
 rename_i y ks';split at hF
 ·cases hF
 rename_i hrng;obtain⟨q,hq,hF⟩:=qFM.1 hF;have hF:qph (GO n).b (GO n).o y mn mx q=some r:=hF;have hm:mn=(mn.toNat:Int):=by omega
 generalize mn.toNat=m at hm hq;subst hm;have hm':(m:Int)<=9223372036854775807:=by omega
 have hpos:(0:Int)<((y::ks').length:Int):=by simp
 simp[ji,iL,yV,qO,qP,vK,hm',-fB',-eB'];intro b4 b5;refine ah (X:=Tbk×Prt×Value×Value) [0,3,4,5] [4] m (λk x=>(qt4 (GO n).b y mx (m -k) x.1 x.2.1).bind (qph (GO n).b (GO n).o y m mx)=some r) (λx=>[]) (λx=>[(0, .box b [.own 990 x.2.2.1, .v (.int .u64 x.1.fi.val), .v (.int .u64 x.1.la.val), .own 991 x.2.2.2, .v (.bool x.1.nul)]),(990, .row x.2.2.1 eW 1 (x.1.lvs.map enc)),(991, .row x.2.2.2 fV 1 (x.1.fol.map enc)),(5, .box b5 [.v (.int .u64 x.2.1.first.val), .v (.int .u64 x.2.1.last.val), .v (.bool x.2.1.nul)])]) (t,F7,v,v') (by simp[hq,hF]) ?_ ?_ (hh:=by simp[F7])
 ·rintro k ⟨t,p,w,w'⟩ hk hx;rw[show m -k=(m - (k+1)) +1 by omega,qt4]at hx;simp only at hx;split at hx
  ·cases hx
  rename_i hok;obtain⟨hlv,hfo⟩:=zd hok;have hlv':(t.lvs.length:Int)<=9223372036854775807:=by omega
  cases hb:(GO n).b t y with
  |none=>rw[hb]at hx;cases hx
  |some c=>
  rw[hb,qGc]at hx;split at hx
  ·cases hx
  rename_i hok2;obtain⟨hlq,hfq⟩:=zd hok2;have hlq':(c.1.lvs.length:Int)<=9223372036854775807:=by omega
  split at hx
  ·rename_i e;have e':(c.1.lvs.length:Int)=t.lvs.length:=by omega
   simp[hk,h1,hb,hlv',hlq',e,e',-fB',-eB'];have hx:some (c.1,F7)=some r:=hx;obtain rfl:=qFY hx;exactλu u'=>zj u u' c.1 F7 rfl rfl rfl rfl rfl
  rename_i e;have e':¬(c.1.lvs.length:Int)=t.lvs.length:=by omega
  have hin:InR .i64 ((m:Int) -1):=by simp only[InR];omega
  by_cases hmx:mx< 0
  ·by_cases hkm:m - (k+1)=0
   ·rw[if_pos ⟨hmx,hkm⟩]at hx;have hkm':(k:Int)=m -1:=by omega
    cases hl:IC c.1 (c.2.last,c.2.first)with
    |none=>rw[hl]at hx;cases hx
    |some l=>
    rw[hl,qGc]at hx;cases hc:BA l.1 (p,c.2)with
    |none=>rw[hc]at hx;cases hx
    |some d=>
    rw[hc,qGc]at hx;simp[hk,h1,h3,h4,hb,hl,hc,hlv',hlq',e,e',hin,hmx,hkm',-fB',-eB'];exactλu u'=>⟨d.1,d.2,hx,u,u', .inl ⟨rfl,rfl,rfl,rfl,rfl⟩, .inl ⟨rfl,rfl⟩, .inl ⟨rfl,rfl⟩, .inl ⟨rfl,rfl,rfl⟩⟩
   ·rw[if_neg (λh=>hkm h.2)]at hx;have hkm':¬(k:Int)=m -1:=by omega
    rw[qGc]at hx;cases hc:BA c.1 (p,c.2)with
    |none=>rw[hc]at hx;cases hx
    |some d=>
    rw[hc,qGc]at hx;simp[hk,h1,h3,h4,hb,hc,hlv',hlq',e,e',hin,hmx,hkm',-fB',-eB'];exactλu u'=>⟨d.1,d.2,hx,u,u', .inl ⟨rfl,rfl,rfl,rfl,rfl⟩, .inl ⟨rfl,rfl⟩, .inl ⟨rfl,rfl⟩, .inl ⟨rfl,rfl,rfl⟩⟩
  ·rw[if_neg (λh=>hmx h.1)]at hx;rw[qGc]at hx;cases hc:BA c.1 (p,c.2)with
   |none=>rw[hc]at hx;cases hx
   |some d=>
   rw[hc,qGc]at hx;simp[hk,h1,h3,h4,hb,hc,hlv',hlq',e,e',hmx,-fB',-eB'];exactλu u'=>⟨d.1,d.2,hx,u,u', .inl ⟨rfl,rfl,rfl,rfl,rfl⟩, .inl ⟨rfl,rfl⟩, .inl ⟨rfl,rfl⟩, .inl ⟨rfl,rfl,rfl⟩⟩
 ·rintro⟨t,p,w,w'⟩ hx;simp only[qHv,qt4,qGc]at hx;have hx:(if mx< 0/\(m:Int)=0 then((GO n).b t y).bind λr=>(IC r.1 (r.2.last,r.2.first)).map λl=>(l.1, { r.2 with nul:=true })else
   if(m:Int)<mx then((GO n).o t (y,mx -m)).bind λr=>BA r.1 (p,r.2)else some (t,p))=some r:=hx
  by_cases hA:mx< 0/\(m:Int)=0
  ·rw[if_pos hA]at hx;obtain⟨hmx,hm0⟩:=hA;obtain⟨c,hb,hx⟩:=qFM.1 hx;obtain⟨l,hl,rfl⟩:=qFW.1 hx;have hm0':m=0:=by omega
   subst hm0';simp[h1,h4,hb,hl,hmx,-fB',-eB'];exactλu u'=>zj u u' l.1 _ rfl rfl rfl rfl ⟨rfl,rfl⟩
  ·rw[if_neg hA]at hx;by_cases hB:(m:Int)<mx
   ·rw[if_pos hB]at hx;obtain⟨c,hb,hx⟩:=qFM.1 hx;have n0:¬mx< 0:=by omega
    have hin:InR .i64 (mx -m):=by simp only[InR];omega
    simp[h2,h3,hb,hx,n0,hB,hin,-fB',-eB'];exactλu u'=>zj u u' r.1 r.2 rfl rfl rfl rfl rfl
   ·rw[if_neg hB]at hx;obtain rfl:=qFY hx;by_cases hmx:mx< 0
    ·have hm0:¬(m:Int)=0:=λh=>hA ⟨hmx,h⟩
     have hm0':¬m=0:=by omega
     simp[hmx,hm0,hm0',hB,-fB',-eB'];exact zj w w' t p rfl rfl rfl rfl ⟨rfl,rfl⟩
    ·simp[hmx,hB,-fB',-eB'];exact zj w w' t p rfl rfl rfl rfl ⟨rfl,rfl⟩
end
section
open Cod (enc dec)
def qc8(t:Tbk):D:= .cptr [enc t.lvs,enc t.fi,enc t.la,enc t.fol,enc t.nul] 0
def qkK{t t':Tbk}(h:qc8 t=qc8 t'):t=t':=by
 obtain⟨a1,a2,a3,a4,a⟩:=t;obtain⟨b1,b2,b,c,d⟩:=t';unfold qc8 at h;injection h with h1 h2;simp only[qGn]at h1;obtain⟨h1,h2,h3,h4,h5,_⟩:=h1;have h1:=cD h1;have h2:=cD h2;have h3:=cD h3;have h4:=cD h4;have h5:=cD h5;subst h1;subst h2;subst h3;subst h4;subst h5;rfl
open Classical in
noncomputable instance:Cod Tbk where
 wd:=1
 enc:=qc8
 dec d:=if h:∃t,d=qc8 t then some h.choose else none
 kn _:=rfl
 wid _:=rfl
 dec_enc t:=by
  have h:∃t',qc8 t=qc8 t':=⟨t,rfl⟩
  rw[dif_pos h];exact congrArg some (qkK h.choose_spec).symm
 le d x h:=by
  split at h
  ·rename_i h';cases h;rw[h'.choose_spec.symm];exact .same _
  ·cases h
@[simp] theorem qy0(t:Tbk):enc t= .cptr [enc t.lvs,enc t.fi,enc t.la,enc t.fol,enc t.nul] 0:=i' rfl
@[simp] theorem qy8(l:List (List Rng))(f a:Int)(fo:List U64)(n:Bool):dec (X:=Tbk) (.cptr [.list 1 (l.map enc), .v (.int .u64 f), .v (.int .u64 a), .list 1 (fo.map enc), .v (.bool n)] 0)=some ⟨l,⟨f⟩,⟨a⟩,fo,n⟩:=Cod.dec_enc (X:=Tbk) ⟨l,⟨f⟩,⟨a⟩,fo,n⟩
variable {S S0:Nat->Spc}
def qoS(n:Nat)(x:Rx):Prop:=(qmT n x).isSome=true
def qso(n:Nat)(x:Rx)(t:Tbk):Prop:=qmT n x=some t
noncomputable abbrev qpf(n:Nat):Spc:=ay (a1 Rx) (qoS n) (enc (X:=Tbk)) (qso n)
theorem qAi(n:Nat)(h1:S du=Oq n):aq Bd Ak S (a1 Rx) (qoS n) (enc (X:=Tbk)) (qso n):=by
 rintro x d;obtain⟨t,c⟩:=qGu.1 d;obtain⟨q,h,rfl⟩:=qFW.1 c;have a:(GO n).b ⟨[],⟨0⟩,⟨0⟩, [],false⟩ x=some q:=h;simp[Bd,Ak,-fB',-eB'];refine lF (X:=Nat) [1] [] [] [] (λ_=>True) (λb=>[(3, .bptr 6 b 0)]) (λb=>[(6, .box b [.own 990 (.slice none 0 0), .v (.int .u64 0), .v (.int .u64 0), .own 991 (.slice none 0 0), .v (.bool false)]),(990, .row (.slice none 0 0) eW 1 []),(991, .row (.slice none 0 0) fV 1 [])]) [6,990,991] (λ_=>rfl) (by decide) ?_ ?_
 ·simp;refineλb=>⟨b, .same _, .inl ?_,by simp[isNilRow],by simp[isNilRow]⟩
  simp;exact⟨.nilown 990, .nilown 991⟩
 ·rintro b -;have j:(Res.row (.slice none 0 0) eW 1 []:Res)= .row (.slice none 0 0) eW 1 (([]:List (List Rng)).map enc):=rfl;have k:(Res.row (.slice none 0 0) fV 1 []:Res)= .row (.slice none 0 0) fV 1 (([]:List U64).map enc):=rfl;rw[j,k];simp[h1,a, -List.map_nil,-fB',-eB'];simp[a,-fB',-eB'];intro w w';refine lF (X:=Unit) [] [] [990,991] [] (λ_=>True) (λ_=>[(2, .bptr 6 b 0)]) (λ_=>[(6, .box b [enc q.1.lvs, .v (.int .u64 q.2.first.val), .v (.int .u64 q.2.last.val),enc q.1.fol, .v (.bool q.2.nul)])]) [6] (λ_=>rfl) (by decide) ?_ ?_
  ·simp;exact .inl ⟨fM (l:=q.1.lvs) eW rfl,fM (l:=q.1.fol) fV rfl⟩
  ·rintro - -;simp;refine aM ⟨q.1.lvs,q.2.first,q.2.last,q.1.fol,q.2.nul⟩ ?_ c;exact .box rfl
def qlV(x:Tbk×U64×Bool):Prop:=x.1.fol.length<=100000
def qlK(x:Tbk×U64×Bool)(y:U64):Prop:=y=CT x.1 x.2.1 x.2.2
noncomputable abbrev qim:Spc:=ay (a3 Tbk U64 Bool) qlV (enc (X:=U64)) qlK
theorem qmA:aq gE gi S (a3 Tbk U64 Bool) qlV (enc (X:=U64)) qlK:=by
 rintro⟨⟨lv,fi,la,fo,d⟩,set,a⟩ hlen;have hlen:fo.length<=100000:=hlen;have hl:(fo.length:Int)<=9223372036854775807:=by omega
 cases a
 ·simp[gE,gi,hl,-fB',-eB'];refine ah (X:=U64) [1,18] [] fo.length (λk m=>qpo set k (fo.drop k) m=qpo set 0 fo ⟨0⟩) (λm=>[(7,enc m)]) (λx=>[]) ⟨0⟩ (by simp) ?_ ?_
  ·rintro k m hk hm;obtain⟨f,b⟩:∃f,fo[k]? =some f:=⟨_,qFQ hk⟩
   obtain⟨_,c⟩:=qFN.1 b;rw[qju b]at hm;simp[hk,b,c,-fB',-eB'];exact⟨λhb=>⟨qnr m f,by simpa [hb]using hm,rfl⟩,λhb=>⟨m,by simpa [hb]using hm,rfl⟩⟩
  ·rintro m hm;rw[qGC,qpo]at hm;subst hm;simp[-fB',-eB'];exact aM _ (.same _) rfl
 ·simp[gE,gi,hl,-fB',-eB'];exact aM _ (.same _) rfl
end
section
open Go.Proofs
def vL:CC:=gq Tryz.f273 [3] {} _
def uI:List ai:=[.tmp 6]
def OV:FO rU [3] vL uI 88:=fo
def vN:CC:=gq Tryz.f210 [2] {} _
def uK:List ai:=[.tmp 4]
def OX:FO xL [2] vN uK 8:=fo
def ro:CC:=gq Tryz.f275 [] {} _
def qx:List ai:=[.tmp 2]
def Kn:FO dJ [] ro qx 5:=fo
def nJ:CC:=gq Tryz.f209 [2] {} _
def nr:List ai:=[.tmp 4]
def FQ:FO pB [2] nJ nr 8:=fo
def pV:CC:=gq Tryz.f274 [] {} _
def ou:List ai:=[.tmp 2]
def Ib:FO dr [] pV ou 43:=fo
open Cod (enc dec)
variable {S S0:Nat->Spc}
def aMt:fN (Rx×B×Bool):=⟨λds=>match ds with
 | [a,b, .clo f []]=>if f=dJ then(dec a).bind λx=>(dec b).map λs=>(x,s,false)else if f=dr then(dec a).bind λx=>(dec b).map λs=>(x,s,true)else none
 | _=>none,λx=>[enc x.1,enc x.2.1, .clo (if x.2.2=true then dr else dJ) []],λds x h=>by
 split at h
 ·rename_i a b f;split at h
  ·rename_i e;simp only[qFM,qFW]at h;obtain⟨x,c,s,hs,rfl⟩:=h;subst e;exact .cons (Cod.le _ _ c) (.cons (Cod.le _ _ hs) (.cons (.same _) .nil))
  ·split at h
   ·rename_i e;simp only[qFM,qFW]at h;obtain⟨x,c,s,hs,rfl⟩:=h;subst e;exact .cons (Cod.le _ _ c) (.cons (Cod.le _ _ hs) (.cons (.same _) .nil))
   grind
 grind⟩
@[simp] theorem qwk(x:Rx)(s:B)(f:Bool):aMt.view (x,s,f)=[enc x,enc s, .clo (if f=true then dr else dJ) []]:=i' rfl
@[simp] theorem qwm(a b:D):aMt.dec [a,b, .clo dJ []]=(dec a).bind λx=>(dec b).map λs=>(x,s,false):=i' rfl
@[simp] theorem qwl(a b:D):aMt.dec [a,b, .clo dr []]=(dec a).bind λx=>(dec b).map λs=>(x,s,true):=i' rfl
abbrev qfN:Spc:=ay (a1 Rx) (λx=>Ft 50 x=true) (enc (X:=Int)) λx y=>y=0
abbrev qip:Spc:=ay (a2 (List Rng) I32) (λ_=>True) (enc (X:=Bool)) λx y=>y=WB x.1 x.2.val
abbrev s_cpVal:Spc:=ay (a1 B) (λs=>yn s=true/\s.size<=1000) (enc (X:=Bool)) λ_ y=>y=true
abbrev qpg:Spc:=ay (a1 I32) (λc=>0<=c.val/\c.val< 128) (enc (X:=List I32)) λc y=>y=qbO false c
abbrev qpe:Spc:=ay (a1 I32) (λc=>0<=c.val/\c.val< 128) (enc (X:=List I32)) λc y=>y=qbO true c
def qoR(x:Rx×B×Bool):Prop:=∃y,Ay x.1 x.2.1 x.2.2=some y
def qsn(x:Rx×B×Bool)(y:Bool):Prop:=Ay x.1 x.2.1 x.2.2=some y
abbrev qiq:Spc:=ay aMt qoR (enc (X:=Bool)) qsn
def TB{s:B}(h:yn s=true){p:Nat}(hp:p<s.size):∃c:UInt8,s.data.toList[p]? =some c/\c.toNat< 128/\Utf8.decode s p=(c.toNat,1):=by
 have hl:p<s.data.toList.length:=by simp_all
 refine⟨s.data.toList[p],qFQ hl,?_,?_⟩;grind [yn]
 ·have h1:(s[p]'hp).toNat< 128:=by
   have:=qFT.1 h _ (qHm hl);have h2:s.data[p].toNat< 128:=by grind
   exact h2
  have:=Go.decode_ascii s p hp h1;rw[this];rfl
set_option maxHeartbeats 2000000 in
theorem QO(h1:S lL=qfN)(h2:S pU=s_cpVal)(h3:S Dg=qpf 50)(h4:S mA=qim)(h5:S qZ=qip)(h6:S dJ=qpg)(h7:S dr=qpe):
 aq vL uI S aMt qoR (enc (X:=Bool)) qsn:=by
 rintro⟨x,s,f⟩ ⟨y,hy⟩;have hy0:Ay x s f=some y:=hy;unfold Ay at hy0;split at hy0
 rotate_left
 grind;rename_i hc;obtain⟨hv,ha,hsz⟩:=hc;obtain⟨t,ht,hy1⟩:=qFM.1 hy0;split at hy1
 rotate_left
 grind;rename_i hok;have hres:quq t (qbO f) (qoB s.data.toList) ⟨0⟩ true=y:=qFY hy1;obtain⟨hlv,hfo⟩:=zd (t:=t) (by grind);have hOf:qso 50 x t:=ht;have hPOf:qoS 50 x:=by grind [qoS]
 simp[vL,uI,h1,h2,h3,hv,ha,hsz,hPOf,-fB',-eB'];intro t' ht' b;obtain rfl:t=t':=by
  have h:qmT 50 x=some t':=ht';grind
 refine aA (X:=U64×Bool×Nat) [2,7,28] [] (λz=>quq t (qbO f) (qoB (s.data.toList.drop z.2.2)) z.1 z.2.1=y/\z.2.2<=s.size) (λz=>[(8,enc z.1),(9,enc z.2.1)]) (λz=>[(28, .iter b s z.2.2)]) (λz=>s.size -z.2.2) (⟨0⟩,true,0) ⟨by grind,qGb _⟩ ?_;rintro⟨set,beg,pos⟩ ⟨hm,hp⟩;simp only at hm hp;by_cases hlt:pos<s.size
 ·obtain⟨c,hc,hc128,hdec⟩:=TB ha hlt;rw[vG hc]at hm;have hm:(if(qmN (CT t set beg) t.lvs (qbO f ⟨(c.toNat:Int)⟩) ⟨0⟩).val=0 then false else quq t (qbO f) (qoB (s.data.toList.drop (pos+1))) (qmN (CT t set beg) t.lvs (qbO f ⟨(c.toNat:Int)⟩) ⟨0⟩) false)=y:=hm;have hN:qlV (t,set,beg):=by show t.fol.length<=100000;omega
  have hq:qlK (t,set,beg) (CT t set beg):=rfl;have c0:(0:Int)<=(c.toNat:Int):=by omega
  have c1:(c.toNat:Int)< 128:=by omega
  have hvl:((qbO f ⟨(c.toNat:Int)⟩).length:Int)<=9223372036854775807:=by
   have:(qbO f ⟨(c.toNat:Int)⟩).length<=3:=by
    unfold qbO;split
    ·unfold PI;exact qGl (List.length_filter_le _ _) (by simp)
    ·simp
   omega
  have h8:S (if f=true then dr else dJ)=ay (a1 I32) (λc=>0<=c.val/\c.val< 128) (enc (X:=List I32)) λc y=>y=qbO f c:=by
   cases f
   ·exact h6
   ·exact h7
  simp[hlt,hdec,h4,hN,h8,c0,c1,hvl,-fB',-eB'];intro nx hnx;obtain rfl:nx=CT t set beg:=hnx;generalize CT t set beg=nx at hm;generalize qbO f ⟨(c.toNat:Int)⟩=vs at hm hvl;refine ah (X:=U64) [2,7,9,12,28,38] [28] vs.length (λk m=>qmN nx t.lvs (vs.drop k) m=qmN nx t.lvs vs ⟨0⟩) (λm=>[(8,enc m)]) (λ_=>[]) ⟨0⟩ (by simp) ?_ ?_
  ·rintro k m hk hm2;obtain⟨v,hvk⟩:=WM hk;obtain⟨_,hgv⟩:=qFN.1 hvk;rw[vG hvk,qmN]at hm2;have hlv':(t.lvs.length:Int)<=9223372036854775807:=by omega
   simp[hk,hvk,hgv,hlv',-fB',-eB'];refine ah (X:=U64) [2,7,9,12,14,28,38,39,40,47] [28] t.lvs.length (λk m'=>qsY nx v k (t.lvs.drop k) m'=qsY nx v 0 t.lvs m) (λm=>[(8,enc m)]) (λ_=>[]) m (by simp) ?_ ?_
   ·rintro j m' hj hm3;obtain⟨lf,hlf⟩:=WM hj;obtain⟨_,hgl⟩:=qFN.1 hlf;rw[vG hlf,qsY]at hm3;simp[hj,hlf,hgl,h5,-fB',-eB'];refine⟨λhb=>⟨λhc=>⟨_,by rw[if_pos (by simp[hb,hc])]at hm3;exact hm3,rfl⟩,λhc=>⟨m',by rw[if_neg (by simp[hc])]at hm3;exact hm3,rfl⟩⟩,λhb=>⟨m',by rw[if_neg (by simp[hb])]at hm3;exact hm3,rfl⟩⟩
   ·rintro m' hm3;rw[qGC,qsY]at hm3;subst hm3;simp[-fB',-eB'];exact⟨_,hm2,rfl⟩
  ·rintro m hm2;rw[qGC,qmN]at hm2;subst hm2;simp[-fB',-eB'];refine⟨λh0=>?_,λh0=>?_⟩
   ·rw[if_pos h0]at hm;subst hm;exact hy
   ·rw[if_neg h0]at hm;exact⟨_,false,pos+1,⟨hm,by omega⟩,⟨⟨rfl,rfl⟩, .inl rfl⟩,by omega⟩
 ·have hpe:pos=s.size:=by omega
  subst hpe;rw[qHh (by rw[qGD];exact qFU _)]at hm;have hm:((beg && t.nul)||decide (qa8 .u64 set.val t.la.val≠0))=y:=hm;simp[-fB',-eB'];have hQ:∀w,w=y->qsn (x,s,f) w:=λw e=>by subst e;exact hy
  refine⟨λhb=>⟨λhn=>hQ _ ?_,λhn=>hQ _ ?_⟩,λhb=>hQ _ ?_⟩
  all_goals
   subst hb
   first|subst hn|skip
   rw[<-hm];simp[*]
def Mc:aq ro qx S (a1 I32) (λc=>0<=c.val/\c.val< 128) (enc (X:=List I32)) λc y=>y=qbO false c:=by
 rintro⟨c⟩ ⟨a,c1⟩;simp[ro,qx,-fB',-eB'];exact aM [⟨c⟩] (by simp) rfl
def qbk(f:Bool)(x:Rx×B):Prop:=∃y,Ay x.1 x.2 f=some y
def qlL(f:Bool)(x:Rx×B)(y:Bool):Prop:=Ay x.1 x.2 f=some y
abbrev qeb(f:Bool):Spc:=ay (a2 Rx B) (qbk f) (enc (X:=Bool)) (qlL f)
def QR(h1:S rU=qiq):aq vN uK S (a2 Rx B) (qbk false) (enc (X:=Bool)) (qlL false):=by
 rintro⟨x,s⟩ hp;have a:qoR (x,s,false):=hp;simp[vN,uK,h1,a,-fB',-eB'];exactλy b=>b
def G9(h1:S rU=qiq):aq nJ nr S (a2 Rx B) (qbk true) (enc (X:=Bool)) (qlL true):=by
 rintro⟨x,s⟩ hp;have a:qoR (x,s,true):=hp;simp[nJ,nr,h1,a,-fB',-eB'];exactλy b=>b
end
section
open Go.Proofs
def qi:CC:=gq Tryz.f149 [] {} _
def oV:List ai:=[.tmp 6]
def Ph:FO xT [] qi oV 25:=fo
def nQ:CC:=gq Tryz.f86 [9,8,7,6,5] { cu:=[1] } _
def nD:List ai:=[.tmp 10]
def F0:FO kq [9,8,7,6,5] nQ nD 102:=fo
def lz:CC:=gq Tryz.f148 [5] {} _
def kQ:List ai:=[.tmp 6]
def CQ:FO aL [5] lz kQ 13:=fo
def lw:CC:=gq Tryz.f157 [2] {} _
def kP:List ai:=[.tmp 3]
def CP:FO cL [2] lw kP 8:=fo
def mJ:CC:=gq Tryz.f38 [2] {} _
def mq:List ai:=[.tmp 4, .tmp 5]
def Ep:FO iY [2] mJ mq 36:=fo
open Cod (enc dec)
variable {S S0:Nat->Spc}
def F9(v s:B)(f:Bool):Option Bool:=(ms v).bind λx=>Ay x s f
def qlS(x:B×B×Bool):Prop:=∃y,F9 x.1 x.2.1 x.2.2=some y
def qpJ(x:B×B×Bool)(y:Bool):Prop:=F9 x.1 x.2.1 x.2.2=some y
abbrev qdY:Spc:=ay (a3 B B Bool) qlS (enc (X:=Bool)) qpJ
def Rb(h1:S rV=Kf)(h2:S xL=qeb false)(h3:S pB=qeb true):aq qi oV S (a3 B B Bool) qlS (enc (X:=Bool)) qpJ:=by
 rintro⟨v,s,f⟩ ⟨y,b⟩;have b:F9 v s f=some y:=b;obtain⟨x,a,hm⟩:=qFM.1 b;cases f
 ·have hp:qbk false (x,s):=⟨y,hm⟩
  simp[qi,oV,h1,h2,a,hp,-fB',-eB'];exactλz hz=>by show(ms v).bind _=_;rw[a];exact hz
 ·have hp:qbk true (x,s):=⟨y,hm⟩
  simp[qi,oV,h1,h3,a,hp,-fB',-eB'];exactλz hz=>by show(ms v).bind _=_;rw[a];exact hz
mutual
def dw:Cond->Cond| .mk op n a v l f ks=>if op=4\/op=6/\oc (.mk op n a v l f ks)=true then⟨1,ft,ft,ft,ft,false, []⟩else⟨op,n,a,v,l,f,ER ks⟩
def ER:List Cond->List Cond|[]=>[]|k::ks=>dw k::ER ks
end
def SY:∀l:List Cond,ER l=l.map dw
 | []=>by rfl
 |k::l=>by rw[ER,SY l];rfl
def DW(x:Cond):dw x=if x.op=4\/x.op=6/\oc x=true then⟨1,ft,ft,ft,ft,false, []⟩else⟨x.op,x.name,x.arg,x.val,x.lab,x.fold,x.kids.map dw⟩:=by cases x;rw[dw,SY]
abbrev OB:Spc:=ay (a1 Cond) (λx=>∃n,bi x<=n) (enc (X:=Bool)) λx y=>y=oc x
abbrev OD(n:Nat):Spc:=ay (a1 Cond) (λx=>bi x<=n/\cQ x<=60) (enc (X:=Cond)) λx y=>y=dw x
abbrev qd3:Spc:=ay (a1 Cond) (λx=>∃n,bi x<=n/\cQ x<=60) (enc (X:=Cond)) λx y=>y=dw x
def qag{H:ab}{op:Int}{name arg val lab:B}{fold:Bool}{l:List Cond}{v:Value}(h:H 33=some (.row v iD 7 (l.map enc))):FrzTo H (.agg [.v (.int .i64 op), .v (.string name), .v (.string arg), .v (.string val), .v (.string lab), .v (.bool fold), .own 33 v]) (enc (Cond.mk op name arg val lab fold l)):=by
 simp;refine .agg rfl λk c c' h1 h2=>?_
 match k,h1,h2 with
 | 0,h1,h2|1,h1,h2|2,h1,h2|3,h1,h2|4,h1,h2|5,h1,h2=>simp_all
 | 6,h1,h2=>cases h1;cases h2;exact fM iD h
 |k+7,h1,_=>grind
theorem KI:∀l:List Cond,l.length<=gj l
 | []=>by simp
 | k::l=>by
   have:=KI l;grind [rS,gj]
set_option maxHeartbeats 1000000 in
theorem Hh(n:Nat)(h1:S cA=OB)(h2:S gz=OD n):aq ek ea S (a1 Cond) (λx=>bi x<=n+1/\cQ x<=60) (enc (X:=Cond)) λx y=>y=dw x:=by
 rintro x ⟨hd,hn⟩;have hsm:∃n,bi x<=n:=⟨_,qFU _⟩
 have hany:∀H:ab,Fin (enc (X:=Cond)) (λy=>y=⟨1,ft,ft,ft,ft,false, []⟩) (D.agg [.v (.int .i64 1), .v (.string ⟨#[]⟩), .v (.string ⟨#[]⟩), .v (.string ⟨#[]⟩), .v (.string ⟨#[]⟩), .v (.bool false), .v (.slice none 0 0)]) H:=λH=>by
  refine aM ⟨1,ft,ft,ft,ft,false, []⟩ ?_ rfl;simp[ft];refine .agg rfl λk c c' h1 h2=>?_
  match k,h1,h2 with
  | 0,h1,h2|1,h1,h2|2,h1,h2|3,h1,h2|4,h1,h2|5,h1,h2=>simp_all
  | 6,h1,h2=>cases h1;cases h2;simp
  |k+7,h1,_=>grind
 by_cases hc:x.op=4\/x.op=6/\oc x=true
 ·have hl:dw x=⟨1,ft,ft,ft,ft,false, []⟩:=by rw[DW,if_pos hc]
  rcases hc with e|⟨e,e'⟩;simp_all [ek,ea]
  ·obtain⟨op,name,arg,val,lab,fold,ks⟩:=x;simp_all [vc,Spc,OB,OD,Fin,ek,ea]
 ·have hl:dw x=⟨x.op,x.name,x.arg,x.val,x.lab,x.fold,x.kids.map dw⟩:=by rw[DW,if_neg hc]
  have e4:¬x.op=4:=λh=>hc (.inl h)
  obtain⟨op,name,arg,val,lab,fold,ks⟩:=x;simp only at hl e4;have hs:op=6->oc ⟨op,name,arg,val,lab,fold,ks⟩=false:=λh=>by
   grind
  have hkn:∀y∈ks,bi y<=n/\cQ y<=60:=λy hy=>by
   have h1:=DF (p:=⟨op,name,arg,val,lab,fold,ks⟩) hy;have h2:=DT hy;grind [rS]
  have hks:ks.length<=60:=by
   grind [rS,KI]
  by_cases e6:op=6
  ·subst e6;have hs':=hs rfl;simp[ek,ea,h1,hsm,hs',hl,-fB',-eB'];intro b2 b3;refine lF (X:=Unit) [1,2] [2] [] [] (λ_=>True) (λ_=>[(3, .bptr 3 b3 0)]) (λ_=>[(3, .box b3 [.v (.int .i64 6), .v (.string name), .v (.string arg), .v (.string val), .v (.string lab), .v (.bool fold), .own 33 (.slice none 0 0)]),(33, .row (.slice none 0 0) iD 7 [])]) [3,33] (λ_=>rfl) (by decide) ?_ ?_
   ·simp;refine⟨.inl (.nilown 33),by simp[isNilRow]⟩
   rintro - -;simp[-fB',-eB'];intro hkl;refine ah (X:=Value×List Cond) [2,3,22] [2] ks.length (λk z=>z.2=(ks.take k).map dw/\z.2.length=k) (λz=>[]) (λz=>[(3, .box b3 [.v (.int .i64 6), .v (.string name), .v (.string arg), .v (.string val), .v (.string lab), .v (.bool fold), .own 33 z.1]),(33, .row z.1 iD 7 (z.2.map enc))]) (.slice none 0 0, []) ⟨rfl,rfl⟩ ?_ ?_
   ·rintro k ⟨v,l⟩ hk ⟨hl1,hl2⟩;simp only at hl1 hl2;obtain⟨y,hy⟩:=aQ hk;obtain⟨_,hgy⟩:=qFN.1 hy;obtain⟨q1,q2⟩:=hkn y (qFP hy);have hk60:ks.length<=60:=hks;simp[h2,hk,hy,hgy,q1,q2,-fB',-eB'];refine⟨by omega,by omega,λv=>⟨v,l++ [dw y],⟨?_,by simp;omega⟩, .inl rfl, .inl ⟨rfl,by simp⟩⟩⟩;rw[hl1,<-List.map_take,au hy];simp
   ·rintro⟨v,l⟩ ⟨hl1,hl2⟩;simp only at hl1 hl2;rw[qFX]at hl1;simp[-fB',-eB'];exact aM _ (qag rfl) (by rw[hl1])
  ·simp[ek,ea,h1,hsm,e4,e6,hl,-fB',-eB'];intro b2 b3;refine lF (X:=Unit) [1,2] [2] [] [] (λ_=>True) (λ_=>[(3, .bptr 3 b3 0)]) (λ_=>[(3, .box b3 [.v (.int .i64 op), .v (.string name), .v (.string arg), .v (.string val), .v (.string lab), .v (.bool fold), .own 33 (.slice none 0 0)]),(33, .row (.slice none 0 0) iD 7 [])]) [3,33] (λ_=>rfl) (by decide) ?_ ?_
   ·simp;refine⟨.inl (.nilown 33),by simp[isNilRow]⟩
   rintro - -;simp[-fB',-eB'];intro hkl;refine ah (X:=Value×List Cond) [2,3,22] [2] ks.length (λk z=>z.2=(ks.take k).map dw/\z.2.length=k) (λz=>[]) (λz=>[(3, .box b3 [.v (.int .i64 op), .v (.string name), .v (.string arg), .v (.string val), .v (.string lab), .v (.bool fold), .own 33 z.1]),(33, .row z.1 iD 7 (z.2.map enc))]) (.slice none 0 0, []) ⟨rfl,rfl⟩ ?_ ?_
   ·rintro k ⟨v,l⟩ hk ⟨hl1,hl2⟩;simp only at hl1 hl2;obtain⟨y,hy⟩:=aQ hk;obtain⟨_,hgy⟩:=qFN.1 hy;obtain⟨q1,q2⟩:=hkn y (qFP hy);have hk60:ks.length<=60:=hks;simp[h2,hk,hy,hgy,q1,q2,-fB',-eB'];refine⟨by omega,by omega,λv=>⟨v,l++ [dw y],⟨?_,by simp;omega⟩, .inl rfl, .inl ⟨rfl,by simp⟩⟩⟩;rw[hl1,<-List.map_take,au hy];simp
   ·rintro⟨v,l⟩ ⟨hl1,hl2⟩;simp only at hl1 hl2;rw[qFX]at hl1;simp[-fB',-eB'];exact aM _ (qag rfl) (by rw[hl1])
def featS:List B:=[⟨#[124]⟩,⟨#[124,112,124]⟩,⟨#[124,112,124,113,124]⟩,⟨#[124,113,124]⟩]
def RK(s v:B):Option Bool:=if(featS.any λz=>decide (z=s))=true/\(v=⟨#[112]⟩\/v=⟨#[113]⟩)then some (s.data.toList.any λc=>decide (v.data.toList=[c]))else none
structure R3 where
 c:Corpus
 tok:Int
 lb:List B
 bd:List Int
def qW(E:R3):Nat->Cond->Option Bool
 | 0=>λ_=>none
 | n+1=>λx=>
   if x.op=1 then some true else
   if x.op=2 then F9 x.val (sj E.c.toks E.tok (qX E.c.attrs x.name)) x.fold else
   if x.op=3 then RK (sj E.c.toks E.tok (dT E.c.attrs x.name)) x.val else
   if x.op=4 then(if jM E.lb (λz=>decide (z=x.lab))< 0 then none else match E.bd[(jM E.lb λz=>decide (z=x.lab)).toNat]? with
    |some o=>some (decide (0<=o) && decide (sj E.c.toks E.tok (dT E.c.attrs x.name)=sj E.c.toks o (dT E.c.attrs x.arg)))
    |none=>none)else
   if x.op=5 then some (E.c.regs.any (xy x E.tok))else
   if x.op=6 then(match x.kids with|k::_=>(qW E n k).map not|[]=>none)else
   if(x.kids.all λk=>(qW E n k).isSome)=true then
    (if x.op=7 then some (!(x.kids.any λk=>!((qW E n k).getD false)))else some (x.kids.any λk=>(qW E n k).getD false))
   else none
def qtL(c:Corpus):Prop:=c.toks.length<=100000/\(∀r∈c.toks,r.length<=100000)/\c.attrs.length<=1000
abbrev HZ:=Corpus×Cond×Int×List B×List Int
def qkG(z:HZ):R3:=⟨z.1,z.2.2.1,z.2.2.2.1,z.2.2.2.2⟩
def qpL(n:Nat)(z:HZ):Prop:=qtL z.1/\∃y,qW (qkG z) n z.2.1=some y
def qpH(n:Nat)(z:HZ)(y:Bool):Prop:=qW (qkG z) n z.2.1=some y
abbrev aH:fN HZ:=aE Corpus (a4 Cond Int (List B) (List Int))
abbrev OE(n:Nat):Spc:=ay aH (qpL n) (enc (X:=Bool)) (qpH n)
def qov(c:Corpus):List D:=[.list 2 (c.attrs.map enc), .list 1 (c.toks.map enc), .list 4 (c.texts.map enc), .list 4 (c.regs.map enc), .list 4 (c.nodes.map enc), .list 1 (c.heads.map enc), .list 1 (c.rels.map enc)]
theorem qou(c:Corpus): .agg (qov c)=enc c:=by rfl
theorem qot{x y:Corpus}(h:qov x=qov y):x=y:=cD (by grind [qou])
def qk9(z:HZ):List D:=[.cptr (qov z.1) 0, .cptr [enc z.2.2.1] 0, .cptr [enc z.2.2.2.1] 0, .cptr [enc z.2.2.2.2] 0]
def ql2(z:HZ):List D:=enc z.2.1::qk9 z
def qsJ(z:HZ):List D:=[enc z.2.1, .cptr [.clo aL (qk9 z)] 0]
def Ng(z j:HZ)(h:ql2 z=ql2 j):z=j:=by
 obtain⟨a,b,c,d,e⟩:=z;obtain⟨k,b',c',l,p⟩:=j;unfold ql2 qk9 at h;simp only[qGn,D.cptr.injEq,and_true]at h;grind [cD,qot]
def qdG(z a:HZ)(h:qsJ z=qsJ a):z=a:=by
 unfold qsJ at h;simp only[qGn,D.cptr.injEq,D.clo.injEq,and_true,true_and]at h;refine Ng z a ?_;grind [ql2]
noncomputable abbrev aH1:fN HZ:=aX ql2 Ng
noncomputable abbrev qEP:fN HZ:=aX qsJ qdG
noncomputable abbrev qck(n:Nat):Spc:=ay aH1 (qpL n) (enc (X:=Bool)) (qpH n)
noncomputable abbrev qiy(n:Nat):Spc:=ay qEP (qpL n) (enc (X:=Bool)) λz y=>∃b,qW (qkG z) n z.2.1=some b/\y=!b
def qfy(n:Nat)(h1:S kq=OE n):aq lz kQ S aH1 (qpL n) (enc (X:=Bool)) (qpH n):=by
 rintro z hz;simp_all [Jw,ql2,qk9,qov,lz,kQ]
@[simp] theorem qzT(c:Corpus)(x:Cond)(tok:Int)(lb:List B)(bd:List Int):aH1.dec [.agg [.v (.int .i64 x.op), .v (.string x.name), .v (.string x.arg), .v (.string x.val), .v (.string x.lab), .v (.bool x.fold), .list 7 (x.kids.map enc)], .cptr [.list 2 (c.attrs.map enc), .list 1 (c.toks.map enc), .list 4 (c.texts.map enc), .list 4 (c.regs.map enc), .list 4 (c.nodes.map enc), .list 1 (c.heads.map enc), .list 1 (c.rels.map enc)] 0, .cptr [.v (.int .i64 tok)] 0, .cptr [.list 1 (lb.map enc)] 0, .cptr [.list 1 (bd.map enc)] 0]=some (c,x,tok,lb,bd):=by
 have h:=Lr ql2 Ng (c,x,tok,lb,bd);have e:ql2 (c,x,tok,lb,bd)=[.agg [.v (.int .i64 x.op), .v (.string x.name), .v (.string x.arg), .v (.string x.val), .v (.string x.lab), .v (.bool x.fold), .list 7 (x.kids.map enc)], .cptr [.list 2 (c.attrs.map enc), .list 1 (c.toks.map enc), .list 4 (c.texts.map enc), .list 4 (c.regs.map enc), .list 4 (c.nodes.map enc), .list 1 (c.heads.map enc), .list 1 (c.rels.map enc)] 0, .cptr [.v (.int .i64 tok)] 0, .cptr [.list 1 (lb.map enc)] 0, .cptr [.list 1 (bd.map enc)] 0]:=by simp[ql2,qk9,qov]
 rw[<-e];exact h
def qfx(n:Nat)(h1:S aL=qck n):aq lw kP S qEP (qpL n) (enc (X:=Bool)) λz y=>∃b,qW (qkG z) n z.2.1=some b/\y=!b:=by
 rintro z hz;rw[Jw];obtain⟨c,x,tok,lb,bd⟩:=z;simp[qsJ,qk9,qov,lw,kP,h1,hz,-fB',-eB'];exactλy a=>a
abbrev qiz:Spc:=ay (a2 B B) (λx=>∃b,RK x.1 x.2=some b) (enc (X:=Bool)) λx y=>RK x.1 x.2=some y
set_option maxHeartbeats 4000000 in
theorem qmu(n:Nat)(h0:S0 aL=qck n)(h0':S0 cL=qiy n)(h1:S aL=qck n)(h2:S cb=qfO Cond S0)(h3:S ku=OF)(h4:S pT=Zf)(h5:S xT=qdY)(h6:S bT=DP)(h7:S xS=qiz)(h8:S dP=UP)(h9:S nH=qiD):
 aq nQ nD S aH (qpL (n+1)) (enc (X:=Bool)) (qpH (n+1)):=by
 rintro⟨c,x,tok,lb,bd⟩ ⟨⟨z1,z2,z3⟩,y,hy⟩;simp only at z1 z2 z3;have hy0:qW ⟨c,tok,lb,bd⟩ (n+1) x=some y:=hy;have hQ:∀w,w=y->qpH (n+1) (c,x,tok,lb,bd) w:=λw e=>by subst e;exact hy
 clear hy;obtain⟨op,name,arg,val,lab,fold,ks⟩:=x;unfold qW at hy0;simp only at hy0;have hval:∀i k:Int,qtL c:=λ_ _=>⟨z1,z2,z3⟩
 simp[nQ,nD,-fB',-eB'];refine lF (X:=Unit) [5,6,7,8,9] [] [11] [] (λ_=>True) (λ_=>[(11, .cptr [.clo aL (qk9 (c,⟨op,name,arg,val,lab,fold,ks⟩,tok,lb,bd))] 0)]) (λ_=>[]) [] (λ_=>rfl) (by decide) ?_ ?_
 ·simp[qk9,qov];exactλb=> .box rfl
 rintro - -;simp only[qk9,qov];split at hy0;simp_all;rename_i e1;split at hy0
 ·rename_i e;subst e;have hM:qlS (val,sj c.toks tok (qX c.attrs name),fold):=⟨y,hy0⟩
  simp[h3,h4,h5,z1,z2,z3,hM,-fB',-eB'];refine⟨z2,λw hw=>hQ _ (qFY (hw.symm.trans hy0))⟩
 rename_i e2;split at hy0
 ·rename_i e;subst e;have hM:∃b,RK (sj c.toks tok (dT c.attrs name)) val=some b:=⟨y,hy0⟩
  simp[h6,h4,h7,z1,z2,z3,hM,-fB',-eB'];refine⟨z2,λw hw=>hQ _ (qFY (hw.symm.trans hy0))⟩
 rename_i e3;split at hy0
 ·rename_i e;subst e;split at hy0
  ·cases hy0
  rename_i hj;obtain⟨j,hjj⟩:∃j,j=jM lb λz=>decide (z=lab):=⟨_,rfl⟩
  rw[<-hjj]at hj hy0;cases ho:bd[j.toNat]? with
  |none=>rw[ho]at hy0;cases hy0
  |some o=>
  rw[ho]at hy0;have hy1:(decide (0<=o) && decide (sj c.toks tok (dT c.attrs name)=sj c.toks o (dT c.attrs arg)))=y:=qFY hy0;have j0:0<=j:=by omega
  obtain⟨hjl,hgo⟩:=qFN.1 ho;have j1:j<(bd.length:Int):=by omega
  by_cases h0o:0<=o
  ·simp[h8,<-hjj,j0,j1,ho,hgo,h0o,h6,h4,z1,z2,z3,-fB',-eB'];exact⟨⟨z2,hQ _ (by rw[<-hy1];simp[h0o])⟩,λh=>by omega⟩
  ·simp[h8,<-hjj,j0,j1,ho,hgo,h0o,-fB',-eB'];exactλ_=>hQ _ (by rw[<-hy1];simp[h0o])
 rename_i e4;split at hy0
 ·rename_i e;subst e;have hy1:=qFY hy0;simp[h9,-fB',-eB'];exact hQ _ hy1
 rename_i e5;split at hy0
 ·rename_i e;subst e;split at hy0
  ·rename_i k ks';obtain⟨b,hb,rfl⟩:=qFW.1 hy0;have hp:qpL n (c,k,tok,lb,bd):=⟨⟨z1,z2,z3⟩,b,hb⟩
   simp[h1,hp,-fB',-eB'];intro w hw;have hw:qW ⟨c,tok,lb,bd⟩ n k=some w:=hw;rw[hb]at hw;cases hw;exact hQ _ rfl
  ·cases hy0
 rename_i e6;split at hy0
 rotate_left
 ·cases hy0
 rename_i hall;have hal:∀k∈ks,∃b,qW ⟨c,tok,lb,bd⟩ n k=some b:=λk hk=>qGu.1 (qFT.1 hall k hk)
 have hf2:FunOn S0 (.clo cL [.cptr [.clo aL (qk9 (c,⟨op,name,arg,val,lab,fold,ks⟩,tok,lb,bd))] 0]) ks λk=>!((qW ⟨c,tok,lb,bd⟩ n k).getD false):=
  zi (f:=λk=>(c,k,tok,lb,bd)) h0' (λk _=>Lr qsJ qdG (c,k,tok,lb,bd)) (λk hk=>⟨⟨z1,z2,z3⟩,hal k hk⟩) (λk hk y hy=>by
   obtain⟨b,h1,h2⟩:=hy;have h1:qW ⟨c,tok,lb,bd⟩ n k=some b:=h1;rw[h2,h1];rfl)
 have hf1:FunOn S0 (.clo aL (qk9 (c,⟨op,name,arg,val,lab,fold,ks⟩,tok,lb,bd))) ks λk=>(qW ⟨c,tok,lb,bd⟩ n k).getD false:=
  zi (f:=λk=>(c,k,tok,lb,bd)) h0 (λk _=>Lr ql2 Ng (c,k,tok,lb,bd)) (λk hk=>⟨⟨z1,z2,z3⟩,hal k hk⟩) (λk hk y hy=>by
   have h1:qW ⟨c,tok,lb,bd⟩ n k=some y:=hy;rw[h1];rfl)
 split at hy0
 ·rename_i e;subst e;have hy1:=qFY hy0;simp[h2,-fB',-eB'];exact⟨⟨_,hf2⟩,λw hw=>hQ _ (by rw[hw _ hf2];exact hy1)⟩
 ·rename_i e7;have hy1:=qFY hy0;simp[h2,e1,e2,e3,e4,e5,e6,e7,-fB',-eB'];exact⟨⟨_,hf1⟩,λw hw=>hQ _ (by rw[hw _ hf1];exact hy1)⟩
def Oo(c:Corpus)(x:Cond)(k:Nat):List Int:=((List.range k).filter λi:Nat=>(qW ⟨c,(i:Int), [], []⟩ 21 (dw x)).getD false).map λi:Nat=>(i:Int)
def zL(c:Corpus)(x:Cond):List Int:=Oo c x c.toks.length
def Sl(c:Corpus)(x:Cond)(k:Nat):Oo c x (k+1)=Oo c x k++ (if(qW ⟨c,(k:Int), [], []⟩ 21 (dw x)).getD false=true then[(k:Int)]else[]):=by
 unfold Oo;rw[List.range_succ,qHw,qHt];congr 1;simp only[List.filter];cases(qW ⟨c,(k:Int), [], []⟩ 21 (dw x)).getD false<;>rfl
def On(c:Corpus)(x:Cond)(k:Nat):(Oo c x k).length<=k:=by
 unfold Oo;rw[qGm];exact qGl (List.length_filter_le _ _) (by simp)
def Jz(z:Corpus×Cond):Prop:=qtL z.1/\cQ z.2<=60/\bi z.2<=60/\ql4 z.1.attrs [] (dw z.2)=true/\∀i:Nat,i<z.1.toks.length->∃y,qW ⟨z.1,(i:Int), [], []⟩ 21 (dw z.2)=some y
abbrev qiI:Spc:=ay (a2 Corpus Cond) Jz (io (Y:=List Int) (Z:=Int)) λz y=>y=(zL z.1 z.2,0)
theorem qhB(h1:S pR=Zb)(h2:S gz=qd3)(h3:S eJ=US)(h4:S kq=OE 21):aq mJ mq S (a2 Corpus Cond) Jz (io (Y:=List Int) (Z:=Int)) λz y=>y=(zL z.1 z.2,0):=by
 rintro⟨c,x⟩ ⟨⟨t,u,j⟩,hn,A,h,d⟩;simp only at t u j hn A h d;have hl:(c.toks.length:Int)<=9223372036854775807:=by omega
 have q:∃n,bi x<=n/\cQ x<=60:=⟨_,qFU _,hn⟩
 simp[mJ,mq,h1,h2,h3,hn,A,h,q,hl,j,-fB',-eB'];intro b;refine⟨⟨_,qFU _⟩,⟨h,j⟩,?_⟩;refine ah (X:=Value×List Int) [2,3] [3] c.toks.length (λk z=>z.2=Oo c x k) (λz=>[(7, .own 33 z.1)]) (λz=>[(33, .row z.1 bC 1 (z.2.map enc))]) (.slice none 0 0, []) (by simp[Oo]) ?_ ?_ (hh:=by simp[isNilRow])
 ·rintro k ⟨v,l⟩ hk a;simp only at a;obtain⟨y,r⟩:=d k hk;have hp:qpL 21 (c,dw x,(k:Int), [], []):=⟨⟨t,u,j⟩,y,r⟩
  have hs:=Sl c x k;have s:=On c x k;rw[<-a]at hs s;have C:(if(qW ⟨c,(k:Int), [], []⟩ 21 (dw x)).getD false=true then[(k:Int)]else[])=if y=true then[(k:Int)]else[]:=by rw[r];rfl
  rw[C]at hs;simp[hk,h4,hp,-fB',-eB'];intro w p;have p:qW ⟨c,(k:Int), [], []⟩ 21 (dw x)=some w:=p;rw[r]at p;cases p;refine⟨λe=>⟨by omega,by omega,λv'=> .inl ?_⟩,λe=> .inl ?_⟩
  ·rw[hs,e];simp
  ·rw[hs,e];simp
 ·rintro⟨v,l⟩ a;simp only at a;simp[-fB',-eB'];have e:zL c x=l:=a.symm;rw[e];exact fM bC rfl
end
section
open Go.Proofs
def wP:CC:=gq Tryz.f11 [] {} _
def wB:List ai:=[.tmp 4]
def ZE:FO Gp [] wP wB 26:=fo
def valsA:List B:=[⟨#[97]⟩,⟨#[98]⟩,⟨#[97,46,42]⟩,⟨#[91,97,98,93]⟩,⟨#[88]⟩,⟨#[]⟩,⟨#[99,63]⟩,⟨#[97,124,98]⟩,⟨#[89]⟩,⟨#[111,46,42]⟩,⟨#[78]⟩,⟨#[97,124,88]⟩]
def wordsA:List B:=[⟨#[97]⟩,⟨#[98]⟩,⟨#[99]⟩,⟨#[65]⟩,⟨#[97,98]⟩,⟨#[]⟩,⟨#[88]⟩,⟨#[89]⟩,⟨#[116,104,101]⟩,⟨#[111,108,100]⟩,⟨#[109,97,110]⟩,⟨#[68]⟩,⟨#[65]⟩,⟨#[78]⟩,⟨#[124]⟩,⟨#[124,112,124]⟩,⟨#[124,112,124,113,124]⟩,⟨#[124,113,124]⟩]
def qtK:Bool:=valsA.all λv=>wordsA.all λw=>(F9 v w false).isSome && (F9 v w true).isSome
def qnB:qtK=true:=by kernel_rfl
def Pq{v w:B}(a:v∈valsA)(b:w∈wordsA)(f:Bool):∃y,F9 v w f=some y:=by
 have h:=qFT.1 (qFT.1 qnB v a) w b;simp only[qFS]at h;cases f
 ·exact qGu.1 h.1
 ·exact qGu.1 h.2
open Cod (enc dec)
variable {S S0:Nat->Spc}
def qEk:Corpus:=⟨[⟨⟨#[119,111,114,100]⟩,false⟩,⟨⟨#[112,111,115]⟩,false⟩], [[⟨#[116,104,101]⟩,⟨#[68]⟩], [⟨#[111,108,100]⟩,⟨#[65]⟩], [⟨#[109,97,110]⟩,⟨#[78]⟩]], [⟨⟨#[116]⟩,0,3, []⟩], [], [], [], []⟩
def HN(a b:List Int):Bool:=decide (a=b)
abbrev qiK:Spc:=ay (a2 (List Int) (List Int)) (λx=>x.1.length<=100000/\x.2.length<=100000) (enc (X:=Bool)) λx y=>y=HN x.1 x.2
theorem qbC:aq wP wB S (a2 (List Int) (List Int)) (λx=>x.1.length<=100000/\x.2.length<=100000) (enc (X:=Bool)) λx y=>y=HN x.1 x.2:=by
 rintro⟨a,b⟩ ⟨la,lb⟩;simp only at la lb;have p:(a.length:Int)<=9223372036854775807:=by omega
 have q:(b.length:Int)<=9223372036854775807:=by omega
 by_cases hl:a.length=b.length
 ·have c:(a.length:Int)=b.length:=by omega
  simp[wP,wB,p,q,hl,c,-fB',-eB'];refine ah (X:=Unit) [0,1] [] b.length (λk _=>a.take k=b.take k) (λ_=>[]) (λ_=>[]) () (by simp) ?_ ?_
  ·rintro k -hk u;have d:k<a.length:=by omega
   obtain⟨x,r⟩:=aQ d;obtain⟨y,l⟩:=aQ hk;obtain⟨_,s⟩:=qFN.1 r;obtain⟨_,t⟩:=qFN.1 l;have w:HN a b=decide (a=b):=rfl;by_cases h:x=y
   ·subst h;simp[hk,d,r,l,s,t,-fB',-eB'];rw[au r,au l,u]
   ·have j:HN a b=false:=by
     unfold HN;rw[decide_eq_false_iff_not];intro e;subst e;rw[r]at l;exact h (qFY l)
    simp[hk,d,r,l,s,t,h,j,-fB',-eB']
  ·rintro -u;rw[<-hl,qFX,hl,qFX]at u;have he:HN a b=true:=decide_eq_true u;simp[he,-fB',-eB']
 ·have c:¬(a.length:Int)=b.length:=by omega
  have j:HN a b=false:=by
   unfold HN;rw[decide_eq_false_iff_not];intro e;exact hl (by rw[e])
  simp[wP,wB,p,q,hl,c,j,-fB',-eB']
end
section
open Cod (enc dec)
variable {S:Nat->Spc}
abbrev sZ:Spc:=ay (a1 Int) (λ_=>True) enc λ_ y=>y=false
def Mu:aq rI qN S (a1 Int) (λ_=>True) enc λ_ y=>y=false:=by
 rintro x -;simp[rI,qN]
def WD(a b:Int):Int:=if a<b then -1 else if b<a then 1 else 0
abbrev ot:Spc:=ay (a2 Int Int) (λ_=>True) enc λx y=>y=WD x.1 x.2
def Ho(h1:S nn=sZ):aq nR nE S (a2 Int Int) (λ_=>True) enc λx y=>y=WD x.1 x.2:=by
 rintro⟨a,b⟩ -;simp_all [nR,nE,WD,if_neg]
abbrev zN:Spc:=ay (a1 (List Int)) (λ_=>True) enc λx y=>y=(x.find? (· ≠0)).getD 0
def Un:aq ym xx S (a1 (List Int)) (λ_=>True) enc λx y=>y=(x.find? (· ≠0)).getD 0:=by
 rintro l -;simp[ym,xx];intro _;refine ah (X:=Unit) [3,6] [] l.length (λk _=>(l.find? λx=>!decide (x=0))=(l.drop k).find? λx=>!decide (x=0)) (λ_=>[]) (λ_=>[]) () (by simp) ?_ ?_
 ·intro k _ hk a;simp;refine⟨hk,λx b=>?_⟩;rw[bE b]at a;grind
 ·intro _ a;rw[qGC]at a;simp[a]
def KJ(x n:Int):Int:=if n< 1 then 0 else if x.tmod n< 0 then x.tmod n+n else x.tmod n
abbrev s_m_Mod:Spc:=ay (a2 Int Int) (λx=>x.2<=1000000000) enc λx y=>y=KJ x.1 x.2
def qms:aq Qf OK S (a2 Int Int) (λx=>x.2<=1000000000) enc λx y=>y=KJ x.1 x.2:=by
 rintro⟨a,b⟩ hl;simp at hl;simp[Qf,OK,KJ];refine⟨λh1 h2=>by omega,λh1=>⟨by omega,λh2=>⟨?_,?_⟩,λh2=>?_⟩⟩
 ·have:=Int.lt_tmod_of_pos a (b:=b) (by omega);grind [InR]
 omega;omega
end
section
open Cod (enc dec)
variable {S S0:Nat->Spc}
def Pm(x n:Int)(h:1<=n):0<=KJ x n/\KJ x n<n:=by
 unfold KJ;rw[if_neg (by omega)];have h1:=Int.tmod_lt_of_pos x (show 0<n by omega);have h2: -n<x.tmod n:=by
  have h3:=Int.natAbs_tmod x n;have h4:x.natAbs % n.natAbs<n.natAbs:=qHd _ (by omega);omega
 split<;>omega
def qsW:CC:= .reg [
 .op (some 4) none (.mv (.const (.int .i64 0)))]
def qq0:CC:= .seq (.regd [
 .op (some 5) none (.mv (.tmp 0)),
 .op (some 6) none (.nilck (.tmp 5)),
 .op (some 7) none (.faddr 1 (.tmp 6)),
 .op (some 8) none (.load false 1 (.tmp 7)),
 .op (some 9) none (.mv (.tmp 0)),
 .op (some 10) none (.nilck (.tmp 9)),
 .op (some 11) none (.faddr 0 (.tmp 10)),
 .op (some 12) none (.load false 1 (.tmp 11)),
 .op (some 13) none (.len (.tmp 12))] [
 .op (some 14) none (.cmp .geq (.tmp 8) (.tmp 13))]) (.ite (.tmp 14) (.seq (.reg [
  .op (some 4) none (.mv (.const (.int .i64 0)))]) .ret) .skip)
def qpq:CC:= .reg [
 .op (some 15) none (.mv (.tmp 0)),
 .op (some 16) none (.nilck (.tmp 15)),
 .op (some 17) none (.faddr 1 (.tmp 16)),
 .op (some 18) none (.load false 1 (.tmp 17)),
 .op (some 19) none (.arith .add (.tmp 18) (.const (.int .i64 1))),
 .op (some 20) none (.nilck (.tmp 15)),
 .op (some 21) none (.faddr 1 (.tmp 20)),
 .op none none (.store none 1 (.tmp 21) (.tmp 19))]
def qsV:CC:= .seq (.regd [
 .op (some 22) none (.mv (.tmp 0)),
 .op (some 23) none (.nilck (.tmp 22)),
 .op (some 24) none (.faddr 0 (.tmp 23)),
 .op (some 25) none (.load false 1 (.tmp 24)),
 .op (some 26) none (.mv (.tmp 0)),
 .op (some 27) none (.nilck (.tmp 26)),
 .op (some 28) none (.faddr 1 (.tmp 27)),
 .op (some 29) none (.load false 1 (.tmp 28)),
 .op (some 30) none (.arith .sub (.tmp 29) (.const (.int .i64 1))),
 .op (some 31) none (.iaddr 1 (.tmp 25) (.tmp 30)),
 .op (some 32) none (.load false 1 (.tmp 31)),
 .op (some 33) none (.mv (.tmp 1))] [
 .op (some 34) none (.call wO [(.tmp 32),(.tmp 33)]),
 .op (some 4) none (.mv (.tmp 34))]) .ret
def qjt:bI wa= .seq qsW (.seq qq0 (.seq qpq qsV)):=rfl
def qul:bI qsW=qsW:=rfl
def quk:bI qq0=qq0:=rfl
def quj:bI qpq=qpq:=rfl
def qui:bI qsV=qsV:=rfl
def qpp(b:Nat)(s:Value)(i n:Int):Ex->Sg->ab->Prop:=λe a H=>match e with
 | .norm=>a 0= .bptr 0 b 0/\a 1= .v (.int .i64 n)/\H 0=some (.box b [.v s, .v (.int .i64 (i+1))])/\i<slen s
 | .ret=>a 4= .v (.int .i64 0)/\H 0=some (.box b [.v s, .v (.int .i64 i)])
 | .ex _=>False
@[simp ↓] theorem qD8(b:Nat)(s:Value)(i n:Int)(a:Sg)(H:ab):qpp b s i n .norm a H=(a 0= .bptr 0 b 0/\a 1= .v (.int .i64 n)/\H 0=some (.box b [.v s, .v (.int .i64 (i+1))])/\i<slen s):=i' rfl
@[simp ↓] theorem qD7(b:Nat)(s:Value)(i n:Int)(a:Sg)(H:ab):qpp b s i n .ret a H=(a 4= .v (.int .i64 0)/\H 0=some (.box b [.v s, .v (.int .i64 i)])):=i' rfl
def qnv(b:Nat)(a:Option Addr)(len cap:Nat)(i n:Int)(h0:0<=i)(hl:(len:Int)<=9223372036854775807):vc S (.seq qsW (.seq qq0 qpq)) (qpp b (.slice a len cap) i n) (dI [.bptr 0 b 0, .v (.int .i64 n)]) (aj dj 0 (some (.box b [.v (.slice a len cap), .v (.int .i64 i)]))):=by
 simp[qsW,qq0,qpq,slen];intro h;exact⟨by simp only[InR];omega,h⟩
def qD6(n:Int):Ex->Sg->ab->Prop:=λe a H=>match e with
 | .ret=>∃y,a 4= .v (.int .i64 y)/\(n< 1/\y=0\/1<=n/\0<=y/\y<n)
 | _=>False
@[simp ↓] theorem qD5(n:Int)(a:Sg)(H:ab):qD6 n .ret a H=(∃y,a 4= .v (.int .i64 y)/\(n< 1/\y=0\/1<=n/\0<=y/\y<n)):=i' rfl
def qnu(hm:S wO=s_m_Mod)(L:List Int)(i n:Int)(h0:0<=i)(hi:i<L.length)(hn:n<=1000000000)(hl:(L.length:Int)<=9223372036854775807):vc S qsV (qD6 n) (dI [.cptr [.list 1 (L.map enc), .v (.int .i64 (i+1))] 0, .v (.int .i64 n)]) dj:=by
 obtain⟨x,b⟩:=aU (l:=L) (k:=i.toNat) (by omega);simp[qsV,hm];refine⟨by simp only[InR];omega,h0,hi,λa _=>⟨hn,?_⟩⟩;rcases Int.lt_or_le n 1 with h|h
 ·exact .inl ⟨h,by simp[KJ,h]⟩
 ·exact .inr ⟨h,Pm a n h⟩
end
end Go.Gv
