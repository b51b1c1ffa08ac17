/- W141 -/
import Derived.Test.YtfpmgnnippjblaaGreatDoorGc16
set_option linter.all false
set_option maxRecDepth 100000
set_option maxHeartbeats 0
open Bool renaming forall_bool → fB', exists_bool → eB'
namespace Go.Gv
section
open Cod (enc dec)
variable {S S0:Nat->Spc}
abbrev OH(n:Nat):Spc:=qml (a1 Rx) (enc (X:=Prt)) (G1 n).b
abbrev qiH(n:Nat):Spc:=qml (a1 Rx) (enc (X:=Prt)) (G1 n).r
abbrev qcs(n:Nat):Spc:=qml (a2 Rx Int) (enc (X:=Prt)) (G1 n).o
def Xi{X:Type}{l:List X}{k:Nat}(h:k<l.length):∃x,l[k]? =some x:=⟨_,qF6 h⟩
def vS{X:Type}{l:List X}{k:Nat}{x:X}(h:l[k]? =some x):l.drop k=x::l.drop (k+1):=by
 obtain⟨h1,h2⟩:=qF4.1 h;rw[qGP h1,h2]
set_option maxHeartbeats 1000000 in
theorem qmR(n:Nat)(h1:S dv=OH n)(h2:S jS=qiH n)(h3:S dR=NA):LE cW cT S (a1 Rx) (enc (X:=Prt)) (G1 (n+1)).b:=by
 rintro b v v' t ⟨op,mn,mx,rs,ks⟩ r hF;replace hF:qsp (G1 n).b (G1 n).r t ⟨op,mn,mx,rs,ks⟩=some r:=hF;unfold qsp at hF;simp only at hF;split at hF
 ·cases hF
 rename_i hok;have hok1:t.lvs.length<=1000/\t.fol.length<=1000:=by
  cases hb:VZ t with
  |true=>exact of_decide_eq_true hb
  |false=>exact absurd (.inl hb) hok
 have hkl:ks.length<=1000:=by
  have:¬1000<ks.length:=λh=>hok (.inr h)
  omega
 obtain⟨hlv,hfo⟩:=hok1;have hkl':(ks.length:Int)<=9223372036854775807:=by omega
 have hlv':(t.lvs.length:Int)<=9223372036854775807:=by omega
 split at hF
 ·rename_i e;subst e;obtain rfl:=qGf hF;simp[cW,cT,zo,qO,qP,vV,hlv',-fB',-eB'];refineλb1=>⟨by omega,by omega,λw=>⟨by omega,by omega,λw'=>?_⟩⟩
  exact zC w w' ⟨t.lvs++ [rs],t.fi,t.la,t.fol++ [⟨0⟩],t.nul⟩ ⟨⟨U1 .u64 1 t.lvs.length⟩,⟨U1 .u64 1 t.lvs.length⟩,false⟩ rfl rfl (by simp[qO,aj]) (by simp[qP,aj]) ⟨rfl,rfl⟩
 rename_i e1;split at hF
 ·rename_i e;subst e;simp[cW,cT,zo,qO,qP,vV,hkl',-fB',-eB'];intro b4 b6;refine ah (X:=Tbk×Prt×Value×Value) [0,4,6,50] [4] ks.length (λk x=>qwc (G1 n).b (ks.drop k) x.1 x.2.1=some r) (λx=>[]) (λx=>[(0, .box b [.own 990 x.2.2.1, .v (.int .u64 x.1.fi.val), .v (.int .u64 x.1.la.val), .own 991 x.2.2.2, .v (.bool x.1.nul)]),(990, .row x.2.2.1 eW 1 (x.1.lvs.map enc)),(991, .row x.2.2.2 fW 1 (x.1.fol.map enc)),(6, .box b6 [.v (.int .u64 x.2.1.first.val), .v (.int .u64 x.2.1.last.val), .v (.bool x.2.1.nul)])]) (t,Gm,v,v') (by simpa using hF) ?_ ?_ (hh:=by simp[Gm])
  ·rintro k ⟨t,p,w,w'⟩ hk hx;obtain⟨y,hy⟩:=Xi hk;obtain⟨_,hgy⟩:=qF4.1 hy;rw[vS hy,qwc]at hx;obtain⟨q,hq,hx⟩:=qF3.1 hx;obtain⟨c,hc,hx⟩:=qF3.1 hx;simp[hk,hy,hgy,h1,h3,hq,hc,-fB',-eB'];exactλu u'=>⟨c.1,c.2,hx,u,u', .inl ⟨rfl,rfl,rfl,rfl,rfl⟩, .inl ⟨rfl,rfl⟩, .inl ⟨rfl,rfl⟩, .inl ⟨rfl,rfl,rfl⟩⟩
  ·rintro⟨t,p,w,w'⟩ hx;rw[qGU,qwc]at hx;obtain rfl:=qGf hx;simp[-fB',-eB'];exact zC w w' t p rfl rfl rfl rfl ⟨rfl,rfl⟩
 rename_i e2;split at hF
 ·rename_i e;subst e;simp[cW,cT,zo,qO,qP,vV,hkl',-fB',-eB'];intro b4 b9;refine ah (X:=Tbk×Prt×Value×Value) [0,4,9,67] [4] ks.length (λk x=>qhy (G1 n).b (ks.drop k) x.1 x.2.1=some r) (λx=>[]) (λx=>[(0, .box b [.own 990 x.2.2.1, .v (.int .u64 x.1.fi.val), .v (.int .u64 x.1.la.val), .own 991 x.2.2.2, .v (.bool x.1.nul)]),(990, .row x.2.2.1 eW 1 (x.1.lvs.map enc)),(991, .row x.2.2.2 fW 1 (x.1.fol.map enc)),(9, .box b9 [.v (.int .u64 x.2.1.first.val), .v (.int .u64 x.2.1.last.val), .v (.bool x.2.1.nul)])]) (t,qBh,v,v') (by simpa using hF) ?_ ?_ (hh:=by simp[qBh])
  ·rintro k ⟨t,p,w,w'⟩ hk hx;obtain⟨y,hy⟩:=Xi hk;obtain⟨_,hgy⟩:=qF4.1 hy;rw[vS hy,qhy]at hx;obtain⟨q,hq,hx⟩:=qF3.1 hx;simp[hk,hy,hgy,h1,hq,-fB',-eB'];refineλu u'=>⟨λhn=>⟨q.1,_,hx,u,u', .inl ⟨rfl,rfl,rfl,rfl,rfl⟩, .inl ⟨rfl,rfl⟩, .inl ⟨rfl,rfl⟩, .inl ⟨rfl,rfl,by simp[hn]⟩⟩,λhn=>⟨q.1,_,hx,u,u', .inl ⟨rfl,rfl,rfl,rfl,rfl⟩, .inl ⟨rfl,rfl⟩, .inl ⟨rfl,rfl⟩, .inl ⟨rfl,rfl,by simp[hn]⟩⟩⟩
  ·rintro⟨t,p,w,w'⟩ hx;rw[qGU,qhy]at hx;obtain rfl:=qGf hx;simp[-fB',-eB'];exact zC w w' t p rfl rfl rfl rfl ⟨rfl,rfl⟩
 rename_i e3;simp[cW,cT,zo,qO,qP,vV,h2,e1,e2,e3,hF,-fB',-eB'];intro b1 w w';exact zC w w' r.1 r.2 rfl rfl rfl rfl rfl
def zx{t:Tbk}(h:VZ t≠false):t.lvs.length<=1000/\t.fol.length<=1000:=by
 cases hb:VZ t with
 |true=>exact of_decide_eq_true hb
 |false=>exact absurd hb h
set_option maxHeartbeats 1000000 in
theorem qbT(n:Nat)(h1:S dv=OH n)(h2:S eS=qcs n)(h3:S dR=NA):LE dc cY S (a2 Rx Int) (enc (X:=Prt)) (G1 (n+1)).o:=by
 rintro b v v' t ⟨y,m⟩ r hF;replace hF:qra (G1 n).b (G1 n).o t ⟨y,m⟩=some r:=hF;unfold qra at hF;simp only at hF;split at hF
 ·cases hF
 rename_i hok;have hok1:=zx λh=>hok (.inr (.inr h))
 have hm0:0<=m:=by have:¬m< 0:=λh=>hok (.inl h);omega
 have hm1:m<=100:=by have:¬100<m:=λh=>hok (.inr (.inl h));omega
 obtain⟨hlv,hfo⟩:=hok1;have hlv':(t.lvs.length:Int)<=9223372036854775807:=by omega
 split at hF
 ·rename_i e;subst e;obtain rfl:=qGf hF;simp[dc,cY,zo,qO,qP,vV,-fB',-eB'];intro b1;exact zC v v' t Gm rfl rfl rfl rfl ⟨rfl,rfl⟩
 rename_i e0;obtain⟨q,hq,hF⟩:=qF3.1 hF;split at hF
 ·cases hF
 rename_i hok2;have hok3:=zx hok2;obtain⟨hlq,hfq⟩:=hok3;have hlq':(q.1.lvs.length:Int)<=9223372036854775807:=by omega
 split at hF
 ·rename_i e;obtain rfl:=qGf hF;have e':(q.1.lvs.length:Int)=t.lvs.length:=by omega
  simp[dc,cY,zo,qO,qP,vV,h1,hq,e0,hlv',hlq',e,e',-fB',-eB'];intro b1 w w';exact zC w w' q.1 Gm rfl rfl rfl rfl ⟨rfl,rfl⟩
 rename_i e;obtain⟨c,hc,hF⟩:=qF3.1 hF;obtain⟨l,hl,hF⟩:=qGe.1 hF;subst hF;have e':¬(q.1.lvs.length:Int)=t.lvs.length:=by omega
 have hin:InR .i64 (m -1):=by simp only[InR];omega
 simp[dc,cY,zo,qO,qP,vV,h1,h2,h3,hq,hc,hl,e0,hlv',hlq',e,e',hin,-fB',-eB'];exactλb1 w w'=>zC w w' l.1 _ rfl rfl rfl rfl ⟨rfl,rfl⟩
def qpA(b:Tbk->Rx->Option (Tbk×Prt))(o:Tbk->Rx×Int->Option (Tbk×Prt))(y:Rx)(mn mx:Int)(q:Tbk×Prt×Bool):Option (Tbk×Prt):=
 if q.2.2=true then some (q.1,Gm)else
  if mx< 0/\mn=0 then(b q.1 y).bind λr=>(IP r.1 (r.2.last,r.2.first)).map λl=>(l.1, { r.2 with nul:=true })else
  if mn<mx then(o q.1 (y,mx -mn)).bind λr=>BP r.1 (q.2.1,r.2)else some (q.1,q.2.1)
set_option maxHeartbeats 2000000 in
theorem qhO(n:Nat)(h1:S dv=OH n)(h2:S eS=qcs n)(h3:S dR=NA)(h4:S gU=U4):LE jj iM S (a1 Rx) (enc (X:=Prt)) (G1 (n+1)).r:=by
 rintro b v v' t ⟨op,mn,mx,rs,ks⟩ r hF;replace hF:qjo (G1 n).b (G1 n).o t ⟨op,mn,mx,rs,ks⟩=some r:=hF;unfold qjo at hF;simp only at hF;split at hF
 ·cases hF
 rename_i y ks';split at hF
 ·cases hF
 rename_i hrng;obtain⟨q,hq,hF⟩:=qF3.1 hF;have hF:qpA (G1 n).b (G1 n).o y mn mx q=some r:=hF;have hm:mn=(mn.toNat:Int):=by omega
 generalize mn.toNat=m at hm hq;subst hm;have hm':(m:Int)<=9223372036854775807:=by omega
 have hpos:(0:Int)<((y::ks').length:Int):=by simp
 simp[jj,iM,zo,qO,qP,vV,hm',-fB',-eB'];intro b4 b5;refine ah (X:=Tbk×Prt×Value×Value) [0,3,4,5] [4] m (λk x=>(qun (G1 n).b y mx (m -k) x.1 x.2.1).bind (qpA (G1 n).b (G1 n).o y m mx)=some r) (λx=>[]) (λx=>[(0, .box b [.own 990 x.2.2.1, .v (.int .u64 x.1.fi.val), .v (.int .u64 x.1.la.val), .own 991 x.2.2.2, .v (.bool x.1.nul)]),(990, .row x.2.2.1 eW 1 (x.1.lvs.map enc)),(991, .row x.2.2.2 fW 1 (x.1.fol.map enc)),(5, .box b5 [.v (.int .u64 x.2.1.first.val), .v (.int .u64 x.2.1.last.val), .v (.bool x.2.1.nul)])]) (t,Gm,v,v') (by simp[hq,hF]) ?_ ?_ (hh:=by simp[Gm])
 ·rintro k ⟨t,p,w,w'⟩ hk hx;rw[show m -k=(m - (k+1)) +1 by omega,qun]at hx;simp only at hx;split at hx
  ·cases hx
  rename_i hok;obtain⟨hlv,hfo⟩:=zx hok;have hlv':(t.lvs.length:Int)<=9223372036854775807:=by omega
  cases hb:(G1 n).b t y with
  |none=>rw[hb]at hx;cases hx
  |some c=>
  rw[hb,qGt]at hx;split at hx
  ·cases hx
  rename_i hok2;obtain⟨hlq,hfq⟩:=zx hok2;have hlq':(c.1.lvs.length:Int)<=9223372036854775807:=by omega
  split at hx
  ·rename_i e;have e':(c.1.lvs.length:Int)=t.lvs.length:=by omega
   simp[hk,h1,hb,hlv',hlq',e,e',-fB',-eB'];have hx:some (c.1,Gm)=some r:=hx;obtain rfl:=qGf hx;exactλu u'=>zC u u' c.1 Gm rfl rfl rfl rfl rfl
  rename_i e;have e':¬(c.1.lvs.length:Int)=t.lvs.length:=by omega
  have hin:InR .i64 ((m:Int) -1):=by simp only[InR];omega
  by_cases hmx:mx< 0
  ·by_cases hkm:m - (k+1)=0
   ·rw[if_pos ⟨hmx,hkm⟩]at hx;have hkm':(k:Int)=m -1:=by omega
    cases hl:IP c.1 (c.2.last,c.2.first)with
    |none=>rw[hl]at hx;cases hx
    |some l=>
    rw[hl,qGt]at hx;cases hc:BP l.1 (p,c.2)with
    |none=>rw[hc]at hx;cases hx
    |some d=>
    rw[hc,qGt]at hx;simp[hk,h1,h3,h4,hb,hl,hc,hlv',hlq',e,e',hin,hmx,hkm',-fB',-eB'];exactλu u'=>⟨d.1,d.2,hx,u,u', .inl ⟨rfl,rfl,rfl,rfl,rfl⟩, .inl ⟨rfl,rfl⟩, .inl ⟨rfl,rfl⟩, .inl ⟨rfl,rfl,rfl⟩⟩
   ·rw[if_neg (λh=>hkm h.2)]at hx;have hkm':¬(k:Int)=m -1:=by omega
    rw[qGt]at hx;cases hc:BP c.1 (p,c.2)with
    |none=>rw[hc]at hx;cases hx
    |some d=>
    rw[hc,qGt]at hx;simp[hk,h1,h3,h4,hb,hc,hlv',hlq',e,e',hin,hmx,hkm',-fB',-eB'];exactλu u'=>⟨d.1,d.2,hx,u,u', .inl ⟨rfl,rfl,rfl,rfl,rfl⟩, .inl ⟨rfl,rfl⟩, .inl ⟨rfl,rfl⟩, .inl ⟨rfl,rfl,rfl⟩⟩
  ·rw[if_neg (λh=>hmx h.1)]at hx;rw[qGt]at hx;cases hc:BP c.1 (p,c.2)with
   |none=>rw[hc]at hx;cases hx
   |some d=>
   rw[hc,qGt]at hx;simp[hk,h1,h3,h4,hb,hc,hlv',hlq',e,e',hmx,-fB',-eB'];exactλu u'=>⟨d.1,d.2,hx,u,u', .inl ⟨rfl,rfl,rfl,rfl,rfl⟩, .inl ⟨rfl,rfl⟩, .inl ⟨rfl,rfl⟩, .inl ⟨rfl,rfl,rfl⟩⟩
 ·rintro⟨t,p,w,w'⟩ hx;simp only[qHN,qun,qGt]at hx;have hx:(if mx< 0/\(m:Int)=0 then((G1 n).b t y).bind λr=>(IP r.1 (r.2.last,r.2.first)).map λl=>(l.1, { r.2 with nul:=true })else
   if(m:Int)<mx then((G1 n).o t (y,mx -m)).bind λr=>BP r.1 (p,r.2)else some (t,p))=some r:=hx
  by_cases hA:mx< 0/\(m:Int)=0
  ·rw[if_pos hA]at hx;obtain⟨hmx,hm0⟩:=hA;obtain⟨c,hb,hx⟩:=qF3.1 hx;obtain⟨l,hl,rfl⟩:=qGe.1 hx;have hm0':m=0:=by omega
   subst hm0';simp[h1,h4,hb,hl,hmx,-fB',-eB'];exactλu u'=>zC u u' l.1 _ rfl rfl rfl rfl ⟨rfl,rfl⟩
  ·rw[if_neg hA]at hx;by_cases hB:(m:Int)<mx
   ·rw[if_pos hB]at hx;obtain⟨c,hb,hx⟩:=qF3.1 hx;have n0:¬mx< 0:=by omega
    have hin:InR .i64 (mx -m):=by simp only[InR];omega
    simp[h2,h3,hb,hx,n0,hB,hin,-fB',-eB'];exactλu u'=>zC u u' r.1 r.2 rfl rfl rfl rfl rfl
   ·rw[if_neg hB]at hx;obtain rfl:=qGf hx;by_cases hmx:mx< 0
    ·have hm0:¬(m:Int)=0:=λh=>hA ⟨hmx,h⟩
     have hm0':¬m=0:=by omega
     simp[hmx,hm0,hm0',hB,-fB',-eB'];exact zC w w' t p rfl rfl rfl rfl ⟨rfl,rfl⟩
    ·simp[hmx,hB,-fB',-eB'];exact zC w w' t p rfl rfl rfl rfl ⟨rfl,rfl⟩
end
section
open Cod (enc dec)
def qdm(t:Tbk):D:= .cptr [enc t.lvs,enc t.fi,enc t.la,enc t.fol,enc t.nul] 0
def qk3{t t':Tbk}(h:qdm t=qdm t'):t=t':=by
 obtain⟨a1,a2,a3,a4,a⟩:=t;obtain⟨b1,b2,b,c,d⟩:=t';unfold qdm at h;injection h with h1 h2;simp only[qGF]at h1;obtain⟨h1,h2,h3,h4,h5,_⟩:=h1;have h1:=cD h1;have h2:=cD h2;have h3:=cD h3;have h4:=cD h4;have h5:=cD h5;subst h1;subst h2;subst h3;subst h4;subst h5;rfl
open Classical in
noncomputable instance:Cod Tbk where
 wd:=1
 enc:=qdm
 dec d:=if h:∃t,d=qdm t then some h.choose else none
 kn _:=rfl
 wid _:=rfl
 dec_enc t:=by
  have h:∃t',qdm t=qdm t':=⟨t,rfl⟩
  rw[dif_pos h];exact congrArg some (qk3 h.choose_spec).symm
 le d x h:=by
  split at h
  ·rename_i h';cases h;rw[h'.choose_spec.symm];exact .same _
  ·cases h
@[simp] theorem qzj(t:Tbk):enc t= .cptr [enc t.lvs,enc t.fi,enc t.la,enc t.fol,enc t.nul] 0:=i' rfl
@[simp] theorem qzr(l:List (List Rng))(f a:Int)(fo:List U64)(n:Bool):dec (X:=Tbk) (.cptr [.list 1 (l.map enc), .v (.int .u64 f), .v (.int .u64 a), .list 1 (fo.map enc), .v (.bool n)] 0)=some ⟨l,⟨f⟩,⟨a⟩,fo,n⟩:=Cod.dec_enc (X:=Tbk) ⟨l,⟨f⟩,⟨a⟩,fo,n⟩
variable {S S0:Nat->Spc}
def qpa(n:Nat)(x:Rx):Prop:=(qnb n x).isSome=true
def qsG(n:Nat)(x:Rx)(t:Tbk):Prop:=qnb n x=some t
noncomputable abbrev qpy(n:Nat):Spc:=ax (a1 Rx) (qpa n) (enc (X:=Tbk)) (qsG n)
theorem qAB(n:Nat)(h1:S dv=OH n):aq Bt Aw S (a1 Rx) (qpa n) (enc (X:=Tbk)) (qsG n):=by
 rintro x d;obtain⟨t,c⟩:=qGK.1 d;obtain⟨q,h,rfl⟩:=qGe.1 c;have a:(G1 n).b ⟨[],⟨0⟩,⟨0⟩, [],false⟩ x=some q:=h;simp[Bt,Aw,-fB',-eB'];refine lE (X:=Nat) [1] [] [] [] (λ_=>True) (λb=>[(3, .bptr 6 b 0)]) (λb=>[(6, .box b [.own 990 (.slice none 0 0), .v (.int .u64 0), .v (.int .u64 0), .own 991 (.slice none 0 0), .v (.bool false)]),(990, .row (.slice none 0 0) eW 1 []),(991, .row (.slice none 0 0) fW 1 [])]) [6,990,991] (λ_=>rfl) (by decide) ?_ ?_
 ·simp;refineλb=>⟨b, .same _, .inl ?_,by simp[isNilRow],by simp[isNilRow]⟩
  simp;exact⟨.nilown 990, .nilown 991⟩
 ·rintro b -;have j:(Res.row (.slice none 0 0) eW 1 []:Res)= .row (.slice none 0 0) eW 1 (([]:List (List Rng)).map enc):=rfl;have k:(Res.row (.slice none 0 0) fW 1 []:Res)= .row (.slice none 0 0) fW 1 (([]:List U64).map enc):=rfl;rw[j,k];simp[h1,a, -List.map_nil,-fB',-eB'];simp[a,-fB',-eB'];intro w w';refine lE (X:=Unit) [] [] [990,991] [] (λ_=>True) (λ_=>[(2, .bptr 6 b 0)]) (λ_=>[(6, .box b [enc q.1.lvs, .v (.int .u64 q.2.first.val), .v (.int .u64 q.2.last.val),enc q.1.fol, .v (.bool q.2.nul)])]) [6] (λ_=>rfl) (by decide) ?_ ?_
  ·simp;exact .inl ⟨fq (l:=q.1.lvs) eW rfl,fq (l:=q.1.fol) fW rfl⟩
  ·rintro - -;simp;refine aL ⟨q.1.lvs,q.2.first,q.2.last,q.1.fol,q.2.nul⟩ ?_ c;exact .box rfl
def qmd(x:Tbk×U64×Bool):Prop:=x.1.fol.length<=100000
def ql2(x:Tbk×U64×Bool)(y:U64):Prop:=y=Dc x.1 x.2.1 x.2.2
noncomputable abbrev qiI:Spc:=ax (a3 Tbk U64 Bool) qmd (enc (X:=U64)) ql2
theorem qmS:aq gF gj S (a3 Tbk U64 Bool) qmd (enc (X:=U64)) ql2:=by
 rintro⟨⟨lv,fi,la,fo,d⟩,set,a⟩ hlen;have hlen:fo.length<=100000:=hlen;have hl:(fo.length:Int)<=9223372036854775807:=by omega
 cases a
 ·simp[gF,gj,hl,-fB',-eB'];refine ah (X:=U64) [1,18] [] fo.length (λk m=>qpH set k (fo.drop k) m=qpH set 0 fo ⟨0⟩) (λm=>[(7,enc m)]) (λx=>[]) ⟨0⟩ (by simp) ?_ ?_
  ·rintro k m hk hm;obtain⟨f,b⟩:∃f,fo[k]? =some f:=⟨_,qF6 hk⟩
   obtain⟨_,c⟩:=qF4.1 b;rw[qjP b]at hm;simp[hk,b,c,-fB',-eB'];exact⟨λhb=>⟨qnJ m f,by simpa [hb]using hm,rfl⟩,λhb=>⟨m,by simpa [hb]using hm,rfl⟩⟩
  ·rintro m hm;rw[qGU,qpH]at hm;subst hm;simp[-fB',-eB'];exact aL _ (.same _) rfl
 ·simp[gF,gj,hl,-fB',-eB'];exact aL _ (.same _) rfl
end
section
open Go.Proofs
def vW:CC:=gq Tryz.f273 [3] {} _
def uT:List ai:=[.tmp 6]
def Pc:FO rU [3] vW uT 88:=fo
def vY:CC:=gq Tryz.f210 [2] {} _
def uV:List ai:=[.tmp 4]
def Pe:FO xZ [2] vY uV 8:=fo
def ro:CC:=gq Tryz.f275 [] {} _
def qx:List ai:=[.tmp 2]
def KA:FO dK [] ro qx 5:=fo
def nJ:CC:=gq Tryz.f209 [2] {} _
def nr:List ai:=[.tmp 4]
def F5:FO pB [2] nJ nr 8:=fo
def pW:CC:=gq Tryz.f274 [] {} _
def ov:List ai:=[.tmp 2]
def In:FO dt [] pW ov 43:=fo
open Cod (enc dec)
variable {S S0:Nat->Spc}
def aMt:fN (Rx×B×Bool):=⟨λds=>match ds with
 | [a,b, .clo f []]=>if f=dK then(dec a).bind λx=>(dec b).map λs=>(x,s,false)else if f=dt then(dec a).bind λx=>(dec b).map λs=>(x,s,true)else none
 | _=>none,λx=>[enc x.1,enc x.2.1, .clo (if x.2.2=true then dt else dK) []],λds x h=>by
 split at h
 ·rename_i a b f;split at h
  ·rename_i e;simp only[qF3,qGe]at h;obtain⟨x,c,s,hs,rfl⟩:=h;subst e;exact .cons (Cod.le _ _ c) (.cons (Cod.le _ _ hs) (.cons (.same _) .nil))
  ·split at h
   ·rename_i e;simp only[qF3,qGe]at h;obtain⟨x,c,s,hs,rfl⟩:=h;subst e;exact .cons (Cod.le _ _ c) (.cons (Cod.le _ _ hs) (.cons (.same _) .nil))
   grind
 grind⟩
@[simp] theorem qwE(x:Rx)(s:B)(f:Bool):aMt.view (x,s,f)=[enc x,enc s, .clo (if f=true then dt else dK) []]:=i' rfl
@[simp] theorem qwG(a b:D):aMt.dec [a,b, .clo dK []]=(dec a).bind λx=>(dec b).map λs=>(x,s,false):=i' rfl
@[simp] theorem qwF(a b:D):aMt.dec [a,b, .clo dt []]=(dec a).bind λx=>(dec b).map λs=>(x,s,true):=i' rfl
abbrev qf7:Spc:=ax (a1 Rx) (λx=>FI 50 x=true) (enc (X:=Int)) λx y=>y=0
abbrev qiL:Spc:=ax (a2 (List Rng) I32) (λ_=>True) (enc (X:=Bool)) λx y=>y=WY x.1 x.2.val
abbrev s_cpVal:Spc:=ax (a1 B) (λs=>yC s=true/\s.size<=1000) (enc (X:=Bool)) λ_ y=>y=true
abbrev qpz:Spc:=ax (a1 I32) (λc=>0<=c.val/\c.val< 128) (enc (X:=List I32)) λc y=>y=qb0 false c
abbrev qpx:Spc:=ax (a1 I32) (λc=>0<=c.val/\c.val< 128) (enc (X:=List I32)) λc y=>y=qb0 true c
def qo9(x:Rx×B×Bool):Prop:=∃y,AK x.1 x.2.1 x.2.2=some y
def qsF(x:Rx×B×Bool)(y:Bool):Prop:=AK x.1 x.2.1 x.2.2=some y
abbrev qiM:Spc:=ax aMt qo9 (enc (X:=Bool)) qsF
def TT{s:B}(h:yC s=true){p:Nat}(hp:p<s.size):∃c:UInt8,s.data.toList[p]? =some c/\c.toNat< 128/\Utf8.decode s p=(c.toNat,1):=by
 have hl:p<s.data.toList.length:=by simp_all
 refine⟨s.data.toList[p],qF6 hl,?_,?_⟩;grind [yC]
 ·have h1:(s[p]'hp).toNat< 128:=by
   have:=qGa.1 h _ (qHE hl);have h2:s.data[p].toNat< 128:=by grind
   exact h2
  have:=Go.decode_ascii s p hp h1;rw[this];rfl
set_option maxHeartbeats 2000000 in
theorem Q4(h1:S lK=qf7)(h2:S pV=s_cpVal)(h3:S Du=qpy 50)(h4:S mA=qiI)(h5:S qZ=qiL)(h6:S dK=qpz)(h7:S dt=qpx):
 aq vW uT S aMt qo9 (enc (X:=Bool)) qsF:=by
 rintro⟨x,s,f⟩ ⟨y,hy⟩;have hy0:AK x s f=some y:=hy;unfold AK at hy0;split at hy0
 rotate_left
 grind;rename_i hc;obtain⟨hv,ha,hsz⟩:=hc;obtain⟨t,ht,hy1⟩:=qF3.1 hy0;split at hy1
 rotate_left
 grind;rename_i hok;have hres:quK t (qb0 f) (qoS s.data.toList) ⟨0⟩ true=y:=qGf hy1;obtain⟨hlv,hfo⟩:=zx (t:=t) (by grind);have hOf:qsG 50 x t:=ht;have hPOf:qpa 50 x:=by grind [qpa]
 simp[vW,uT,h1,h2,h3,hv,ha,hsz,hPOf,-fB',-eB'];intro t' ht' b;obtain rfl:t=t':=by
  have h:qnb 50 x=some t':=ht';grind
 refine aA (X:=U64×Bool×Nat) [2,7,28] [] (λz=>quK t (qb0 f) (qoS (s.data.toList.drop z.2.2)) z.1 z.2.1=y/\z.2.2<=s.size) (λz=>[(8,enc z.1),(9,enc z.2.1)]) (λz=>[(28, .iter b s z.2.2)]) (λz=>s.size -z.2.2) (⟨0⟩,true,0) ⟨by grind,qGr _⟩ ?_;rintro⟨set,beg,pos⟩ ⟨hm,hp⟩;simp only at hm hp;by_cases hlt:pos<s.size
 ·obtain⟨c,hc,hc128,hdec⟩:=TT ha hlt;rw[vS hc]at hm;have hm:(if(qm5 (Dc t set beg) t.lvs (qb0 f ⟨(c.toNat:Int)⟩) ⟨0⟩).val=0 then false else quK t (qb0 f) (qoS (s.data.toList.drop (pos+1))) (qm5 (Dc t set beg) t.lvs (qb0 f ⟨(c.toNat:Int)⟩) ⟨0⟩) false)=y:=hm;have hN:qmd (t,set,beg):=by show t.fol.length<=100000;omega
  have hq:ql2 (t,set,beg) (Dc t set beg):=rfl;have c0:(0:Int)<=(c.toNat:Int):=by omega
  have c1:(c.toNat:Int)< 128:=by omega
  have hvl:((qb0 f ⟨(c.toNat:Int)⟩).length:Int)<=9223372036854775807:=by
   have:(qb0 f ⟨(c.toNat:Int)⟩).length<=3:=by
    unfold qb0;split
    ·unfold P0;exact qGA (List.length_filter_le _ _) (by simp)
    ·simp
   omega
  have h8:S (if f=true then dt else dK)=ax (a1 I32) (λc=>0<=c.val/\c.val< 128) (enc (X:=List I32)) λc y=>y=qb0 f c:=by
   cases f
   ·exact h6
   ·exact h7
  simp[hlt,hdec,h4,hN,h8,c0,c1,hvl,-fB',-eB'];intro nx hnx;obtain rfl:nx=Dc t set beg:=hnx;generalize Dc t set beg=nx at hm;generalize qb0 f ⟨(c.toNat:Int)⟩=vs at hm hvl;refine ah (X:=U64) [2,7,9,12,28,38] [28] vs.length (λk m=>qm5 nx t.lvs (vs.drop k) m=qm5 nx t.lvs vs ⟨0⟩) (λm=>[(8,enc m)]) (λ_=>[]) ⟨0⟩ (by simp) ?_ ?_
  ·rintro k m hk hm2;obtain⟨v,hvk⟩:=Xi hk;obtain⟨_,hgv⟩:=qF4.1 hvk;rw[vS hvk,qm5]at hm2;have hlv':(t.lvs.length:Int)<=9223372036854775807:=by omega
   simp[hk,hvk,hgv,hlv',-fB',-eB'];refine ah (X:=U64) [2,7,9,12,14,28,38,39,40,47] [28] t.lvs.length (λk m'=>qtg nx v k (t.lvs.drop k) m'=qtg nx v 0 t.lvs m) (λm=>[(8,enc m)]) (λ_=>[]) m (by simp) ?_ ?_
   ·rintro j m' hj hm3;obtain⟨lf,hlf⟩:=Xi hj;obtain⟨_,hgl⟩:=qF4.1 hlf;rw[vS hlf,qtg]at hm3;simp[hj,hlf,hgl,h5,-fB',-eB'];refine⟨λhb=>⟨λhc=>⟨_,by rw[if_pos (by simp[hb,hc])]at hm3;exact hm3,rfl⟩,λhc=>⟨m',by rw[if_neg (by simp[hc])]at hm3;exact hm3,rfl⟩⟩,λhb=>⟨m',by rw[if_neg (by simp[hb])]at hm3;exact hm3,rfl⟩⟩
   ·rintro m' hm3;rw[qGU,qtg]at hm3;subst hm3;simp[-fB',-eB'];exact⟨_,hm2,rfl⟩
  ·rintro m hm2;rw[qGU,qm5]at hm2;subst hm2;simp[-fB',-eB'];refine⟨λh0=>?_,λh0=>?_⟩
   ·rw[if_pos h0]at hm;subst hm;exact hy
   ·rw[if_neg h0]at hm;exact⟨_,false,pos+1,⟨hm,by omega⟩,⟨⟨rfl,rfl⟩, .inl rfl⟩,by omega⟩
 ·have hpe:pos=s.size:=by omega
  subst hpe;rw[qHz (by rw[qGV];exact qGb _)]at hm;have hm:((beg && t.nul)||decide (qbn .u64 set.val t.la.val≠0))=y:=hm;simp[-fB',-eB'];have hQ:∀w,w=y->qsF (x,s,f) w:=λw e=>by subst e;exact hy
  refine⟨λhb=>⟨λhn=>hQ _ ?_,λhn=>hQ _ ?_⟩,λhb=>hQ _ ?_⟩
  all_goals
   subst hb
   first|subst hn|skip
   rw[<-hm];simp[*]
def Mn:aq ro qx S (a1 I32) (λc=>0<=c.val/\c.val< 128) (enc (X:=List I32)) λc y=>y=qb0 false c:=by
 rintro⟨c⟩ ⟨a,c1⟩;simp[ro,qx,-fB',-eB'];exact aL [⟨c⟩] (by simp) rfl
def qbz(f:Bool)(x:Rx×B):Prop:=∃y,AK x.1 x.2 f=some y
def ql3(f:Bool)(x:Rx×B)(y:Bool):Prop:=AK x.1 x.2 f=some y
abbrev qes(f:Bool):Spc:=ax (a2 Rx B) (qbz f) (enc (X:=Bool)) (ql3 f)
def Q7(h1:S rU=qiM):aq vY uV S (a2 Rx B) (qbz false) (enc (X:=Bool)) (ql3 false):=by
 rintro⟨x,s⟩ hp;have a:qo9 (x,s,false):=hp;simp[vY,uV,h1,a,-fB',-eB'];exactλy b=>b
def Ho(h1:S rU=qiM):aq nJ nr S (a2 Rx B) (qbz true) (enc (X:=Bool)) (ql3 true):=by
 rintro⟨x,s⟩ hp;have a:qo9 (x,s,true):=hp;simp[nJ,nr,h1,a,-fB',-eB'];exactλy b=>b
end
section
open Go.Proofs
def qi:CC:=gq Tryz.f149 [] {} _
def oV:List ai:=[.tmp 6]
def Px:FO yg [] qi oV 25:=fo
def nQ:CC:=gq Tryz.f86 [9,8,7,6,5] { cu:=[1] } _
def nD:List ai:=[.tmp 10]
def Gf:FO ku [9,8,7,6,5] nQ nD 102:=fo
def lA:CC:=gq Tryz.f148 [5] {} _
def kR:List ai:=[.tmp 6]
def Da:FO aN [5] lA kR 13:=fo
def lz:CC:=gq Tryz.f157 [2] {} _
def kQ:List ai:=[.tmp 3]
def C9:FO cM [2] lz kQ 8:=fo
def mK:CC:=gq Tryz.f38 [2] {} _
def mq:List ai:=[.tmp 4, .tmp 5]
def EE:FO iZ [2] mK mq 36:=fo
open Cod (enc dec)
variable {S S0:Nat->Spc}
def Gp(v s:B)(f:Bool):Option Bool:=(ms v).bind λx=>AK x s f
def qma(x:B×B×Bool):Prop:=∃y,Gp x.1 x.2.1 x.2.2=some y
def qp2(x:B×B×Bool)(y:Bool):Prop:=Gp x.1 x.2.1 x.2.2=some y
abbrev qef:Spc:=ax (a3 B B Bool) qma (enc (X:=Bool)) qp2
def Rt(h1:S rV=Kr)(h2:S xZ=qes false)(h3:S pB=qes true):aq qi oV S (a3 B B Bool) qma (enc (X:=Bool)) qp2:=by
 rintro⟨v,s,f⟩ ⟨y,b⟩;have b:Gp v s f=some y:=b;obtain⟨x,a,hm⟩:=qF3.1 b;cases f
 ·have hp:qbz false (x,s):=⟨y,hm⟩
  simp[qi,oV,h1,h2,a,hp,-fB',-eB'];exactλz hz=>by show(ms v).bind _=_;rw[a];exact hz
 ·have hp:qbz true (x,s):=⟨y,hm⟩
  simp[qi,oV,h1,h3,a,hp,-fB',-eB'];exactλz hz=>by show(ms v).bind _=_;rw[a];exact hz
mutual
def dx:Cond->Cond| .mk op n a v l f ks=>if op=4\/op=6/\oc (.mk op n a v l f ks)=true then⟨1,fu,fu,fu,fu,false, []⟩else⟨op,n,a,v,l,f,E9 ks⟩
def E9:List Cond->List Cond|[]=>[]|k::ks=>dx k::E9 ks
end
def Tq:∀l:List Cond,E9 l=l.map dx
 | []=>by rfl
 |k::l=>by rw[E9,Tq l];rfl
def Ea(x:Cond):dx x=if x.op=4\/x.op=6/\oc x=true then⟨1,fu,fu,fu,fu,false, []⟩else⟨x.op,x.name,x.arg,x.val,x.lab,x.fold,x.kids.map dx⟩:=by cases x;rw[dx,Tq]
abbrev OP:Spc:=ax (a1 Cond) (λx=>∃n,bi x<=n) (enc (X:=Bool)) λx y=>y=oc x
abbrev OR(n:Nat):Spc:=ax (a1 Cond) (λx=>bi x<=n/\cR x<=60) (enc (X:=Cond)) λx y=>y=dx x
abbrev qek:Spc:=ax (a1 Cond) (λx=>∃n,bi x<=n/\cR x<=60) (enc (X:=Cond)) λx y=>y=dx x
def qau{H:ab}{op:Int}{name arg val lab:B}{fold:Bool}{l:List Cond}{v:Value}(h:H 33=some (.row v iE 7 (l.map enc))):FrzTo H (.agg [.v (.int .i64 op), .v (.string name), .v (.string arg), .v (.string val), .v (.string lab), .v (.bool fold), .own 33 v]) (enc (Cond.mk op name arg val lab fold l)):=by
 simp;refine .agg rfl λk c c' h1 h2=>?_
 match k,h1,h2 with
 | 0,h1,h2|1,h1,h2|2,h1,h2|3,h1,h2|4,h1,h2|5,h1,h2=>simp_all
 | 6,h1,h2=>cases h1;cases h2;exact fq iE h
 |k+7,h1,_=>grind
theorem KW:∀l:List Cond,l.length<=gk l
 | []=>by simp
 | k::l=>by
   have:=KW l;grind [rS,gk]
set_option maxHeartbeats 1000000 in
theorem Hv(n:Nat)(h1:S cA=OP)(h2:S gA=OR n):aq eo eb S (a1 Cond) (λx=>bi x<=n+1/\cR x<=60) (enc (X:=Cond)) λx y=>y=dx x:=by
 rintro x ⟨hd,hn⟩;have hsm:∃n,bi x<=n:=⟨_,qGb _⟩
 have hany:∀H:ab,Fin (enc (X:=Cond)) (λy=>y=⟨1,fu,fu,fu,fu,false, []⟩) (D.agg [.v (.int .i64 1), .v (.string ⟨#[]⟩), .v (.string ⟨#[]⟩), .v (.string ⟨#[]⟩), .v (.string ⟨#[]⟩), .v (.bool false), .v (.slice none 0 0)]) H:=λH=>by
  refine aL ⟨1,fu,fu,fu,fu,false, []⟩ ?_ rfl;simp[fu];refine .agg rfl λk c c' h1 h2=>?_
  match k,h1,h2 with
  | 0,h1,h2|1,h1,h2|2,h1,h2|3,h1,h2|4,h1,h2|5,h1,h2=>simp_all
  | 6,h1,h2=>cases h1;cases h2;simp
  |k+7,h1,_=>grind
 by_cases hc:x.op=4\/x.op=6/\oc x=true
 ·have hl:dx x=⟨1,fu,fu,fu,fu,false, []⟩:=by rw[Ea,if_pos hc]
  rcases hc with e|⟨e,e'⟩;simp_all [eo,eb]
  ·obtain⟨op,name,arg,val,lab,fold,ks⟩:=x;simp_all [vc,Spc,OP,OR,Fin,eo,eb]
 ·have hl:dx x=⟨x.op,x.name,x.arg,x.val,x.lab,x.fold,x.kids.map dx⟩:=by rw[Ea,if_neg hc]
  have e4:¬x.op=4:=λh=>hc (.inl h)
  obtain⟨op,name,arg,val,lab,fold,ks⟩:=x;simp only at hl e4;have hs:op=6->oc ⟨op,name,arg,val,lab,fold,ks⟩=false:=λh=>by
   grind
  have hkn:∀y∈ks,bi y<=n/\cR y<=60:=λy hy=>by
   have h1:=DS (p:=⟨op,name,arg,val,lab,fold,ks⟩) hy;have h2:=D7 hy;grind [rS]
  have hks:ks.length<=60:=by
   grind [rS,KW]
  by_cases e6:op=6
  ·subst e6;have hs':=hs rfl;simp[eo,eb,h1,hsm,hs',hl,-fB',-eB'];intro b2 b3;refine lE (X:=Unit) [1,2] [2] [] [] (λ_=>True) (λ_=>[(3, .bptr 3 b3 0)]) (λ_=>[(3, .box b3 [.v (.int .i64 6), .v (.string name), .v (.string arg), .v (.string val), .v (.string lab), .v (.bool fold), .own 33 (.slice none 0 0)]),(33, .row (.slice none 0 0) iE 7 [])]) [3,33] (λ_=>rfl) (by decide) ?_ ?_
   ·simp;refine⟨.inl (.nilown 33),by simp[isNilRow]⟩
   rintro - -;simp[-fB',-eB'];intro hkl;refine ah (X:=Value×List Cond) [2,3,22] [2] ks.length (λk z=>z.2=(ks.take k).map dx/\z.2.length=k) (λz=>[]) (λz=>[(3, .box b3 [.v (.int .i64 6), .v (.string name), .v (.string arg), .v (.string val), .v (.string lab), .v (.bool fold), .own 33 z.1]),(33, .row z.1 iE 7 (z.2.map enc))]) (.slice none 0 0, []) ⟨rfl,rfl⟩ ?_ ?_
   ·rintro k ⟨v,l⟩ hk ⟨hl1,hl2⟩;simp only at hl1 hl2;obtain⟨y,hy⟩:=aM hk;obtain⟨_,hgy⟩:=qF4.1 hy;obtain⟨q1,q2⟩:=hkn y (qF7 hy);have hk60:ks.length<=60:=hks;simp[h2,hk,hy,hgy,q1,q2,-fB',-eB'];refine⟨by omega,by omega,λv=>⟨v,l++ [dx y],⟨?_,by simp;omega⟩, .inl rfl, .inl ⟨rfl,by simp⟩⟩⟩;rw[hl1,<-List.map_take,au hy];simp
   ·rintro⟨v,l⟩ ⟨hl1,hl2⟩;simp only at hl1 hl2;rw[qGc]at hl1;simp[-fB',-eB'];exact aL _ (qau rfl) (by rw[hl1])
  ·simp[eo,eb,h1,hsm,e4,e6,hl,-fB',-eB'];intro b2 b3;refine lE (X:=Unit) [1,2] [2] [] [] (λ_=>True) (λ_=>[(3, .bptr 3 b3 0)]) (λ_=>[(3, .box b3 [.v (.int .i64 op), .v (.string name), .v (.string arg), .v (.string val), .v (.string lab), .v (.bool fold), .own 33 (.slice none 0 0)]),(33, .row (.slice none 0 0) iE 7 [])]) [3,33] (λ_=>rfl) (by decide) ?_ ?_
   ·simp;refine⟨.inl (.nilown 33),by simp[isNilRow]⟩
   rintro - -;simp[-fB',-eB'];intro hkl;refine ah (X:=Value×List Cond) [2,3,22] [2] ks.length (λk z=>z.2=(ks.take k).map dx/\z.2.length=k) (λz=>[]) (λz=>[(3, .box b3 [.v (.int .i64 op), .v (.string name), .v (.string arg), .v (.string val), .v (.string lab), .v (.bool fold), .own 33 z.1]),(33, .row z.1 iE 7 (z.2.map enc))]) (.slice none 0 0, []) ⟨rfl,rfl⟩ ?_ ?_
   ·rintro k ⟨v,l⟩ hk ⟨hl1,hl2⟩;simp only at hl1 hl2;obtain⟨y,hy⟩:=aM hk;obtain⟨_,hgy⟩:=qF4.1 hy;obtain⟨q1,q2⟩:=hkn y (qF7 hy);have hk60:ks.length<=60:=hks;simp[h2,hk,hy,hgy,q1,q2,-fB',-eB'];refine⟨by omega,by omega,λv=>⟨v,l++ [dx y],⟨?_,by simp;omega⟩, .inl rfl, .inl ⟨rfl,by simp⟩⟩⟩;rw[hl1,<-List.map_take,au hy];simp
   ·rintro⟨v,l⟩ ⟨hl1,hl2⟩;simp only at hl1 hl2;rw[qGc]at hl1;simp[-fB',-eB'];exact aL _ (qau rfl) (by rw[hl1])
def featS:List B:=[⟨#[124]⟩,⟨#[124,112,124]⟩,⟨#[124,112,124,113,124]⟩,⟨#[124,113,124]⟩]
def R1(s v:B):Option Bool:=if(featS.any λz=>decide (z=s))=true/\(v=⟨#[112]⟩\/v=⟨#[113]⟩)then some (s.data.toList.any λc=>decide (v.data.toList=[c]))else none
structure Sm where
 c:Corpus
 tok:Int
 lb:List B
 bd:List Int
def qW(E:Sm):Nat->Cond->Option Bool
 | 0=>λ_=>none
 | n+1=>λx=>
   if x.op=1 then some true else
   if x.op=2 then Gp x.val (sk E.c.toks E.tok (qX E.c.attrs x.name)) x.fold else
   if x.op=3 then R1 (sk E.c.toks E.tok (dU E.c.attrs x.name)) x.val else
   if x.op=4 then(if fL E.lb (λz=>decide (z=x.lab))< 0 then none else match E.bd[(fL E.lb λz=>decide (z=x.lab)).toNat]? with
    |some o=>some (decide (0<=o) && decide (sk E.c.toks E.tok (dU E.c.attrs x.name)=sk E.c.toks o (dU E.c.attrs x.arg)))
    |none=>none)else
   if x.op=5 then some (E.c.regs.any (xP x E.tok))else
   if x.op=6 then(match x.kids with|k::_=>(qW E n k).map not|[]=>none)else
   if(x.kids.all λk=>(qW E n k).isSome)=true then
    (if x.op=7 then some (!(x.kids.any λk=>!((qW E n k).getD false)))else some (x.kids.any λk=>(qW E n k).getD false))
   else none
def qt3(c:Corpus):Prop:=c.toks.length<=100000/\(∀r∈c.toks,r.length<=100000)/\c.attrs.length<=1000
abbrev HZ:=Corpus×Cond×Int×List B×List Int
def qkZ(z:HZ):Sm:=⟨z.1,z.2.2.1,z.2.2.2.1,z.2.2.2.2⟩
def qp4(n:Nat)(z:HZ):Prop:=qt3 z.1/\∃y,qW (qkZ z) n z.2.1=some y
def qp0(n:Nat)(z:HZ)(y:Bool):Prop:=qW (qkZ z) n z.2.1=some y
abbrev aH:fN HZ:=aE Corpus (a4 Cond Int (List B) (List Int))
abbrev OS(n:Nat):Spc:=ax aH (qp4 n) (enc (X:=Bool)) (qp0 n)
def qoM(c:Corpus):List D:=[.list 2 (c.attrs.map enc), .list 1 (c.toks.map enc), .list 4 (c.texts.map enc), .list 4 (c.regs.map enc), .list 4 (c.nodes.map enc), .list 1 (c.heads.map enc), .list 1 (c.rels.map enc)]
theorem qoL(c:Corpus): .agg (qoM c)=enc c:=by rfl
theorem qoK{x y:Corpus}(h:qoM x=qoM y):x=y:=cD (by grind [qoL])
def qls(z:HZ):List D:=[.cptr (qoM z.1) 0, .cptr [enc z.2.2.1] 0, .cptr [enc z.2.2.2.1] 0, .cptr [enc z.2.2.2.2] 0]
def qmk(z:HZ):List D:=enc z.2.1::qls z
def qs1(z:HZ):List D:=[enc z.2.1, .cptr [.clo aN (qls z)] 0]
def Nu(z j:HZ)(h:qmk z=qmk j):z=j:=by
 obtain⟨a,b,c,d,e⟩:=z;obtain⟨k,b',c',l,p⟩:=j;unfold qmk qls at h;simp only[qGF,D.cptr.injEq,and_true]at h;grind [cD,qoK]
def qdX(z a:HZ)(h:qs1 z=qs1 a):z=a:=by
 unfold qs1 at h;simp only[qGF,D.cptr.injEq,D.clo.injEq,and_true,true_and]at h;refine Nu z a ?_;grind [qmk]
noncomputable abbrev aH1:fN HZ:=aX qmk Nu
noncomputable abbrev qE6:fN HZ:=aX qs1 qdX
noncomputable abbrev qcu(n:Nat):Spc:=ax aH1 (qp4 n) (enc (X:=Bool)) (qp0 n)
noncomputable abbrev qiU(n:Nat):Spc:=ax qE6 (qp4 n) (enc (X:=Bool)) λz y=>∃b,qW (qkZ z) n z.2.1=some b/\y=!b
def qfS(n:Nat)(h1:S ku=OS n):aq lA kR S aH1 (qp4 n) (enc (X:=Bool)) (qp0 n):=by
 rintro z hz;simp_all [JI,qmk,qls,qoM,lA,kR]
@[simp] theorem qAc(c:Corpus)(x:Cond)(tok:Int)(lb:List B)(bd:List Int):aH1.dec [.agg [.v (.int .i64 x.op), .v (.string x.name), .v (.string x.arg), .v (.string x.val), .v (.string x.lab), .v (.bool x.fold), .list 7 (x.kids.map enc)], .cptr [.list 2 (c.attrs.map enc), .list 1 (c.toks.map enc), .list 4 (c.texts.map enc), .list 4 (c.regs.map enc), .list 4 (c.nodes.map enc), .list 1 (c.heads.map enc), .list 1 (c.rels.map enc)] 0, .cptr [.v (.int .i64 tok)] 0, .cptr [.list 1 (lb.map enc)] 0, .cptr [.list 1 (bd.map enc)] 0]=some (c,x,tok,lb,bd):=by
 have h:=LD qmk Nu (c,x,tok,lb,bd);have e:qmk (c,x,tok,lb,bd)=[.agg [.v (.int .i64 x.op), .v (.string x.name), .v (.string x.arg), .v (.string x.val), .v (.string x.lab), .v (.bool x.fold), .list 7 (x.kids.map enc)], .cptr [.list 2 (c.attrs.map enc), .list 1 (c.toks.map enc), .list 4 (c.texts.map enc), .list 4 (c.regs.map enc), .list 4 (c.nodes.map enc), .list 1 (c.heads.map enc), .list 1 (c.rels.map enc)] 0, .cptr [.v (.int .i64 tok)] 0, .cptr [.list 1 (lb.map enc)] 0, .cptr [.list 1 (bd.map enc)] 0]:=by simp[qmk,qls,qoM]
 rw[<-e];exact h
def qfR(n:Nat)(h1:S aN=qcu n):aq lz kQ S qE6 (qp4 n) (enc (X:=Bool)) λz y=>∃b,qW (qkZ z) n z.2.1=some b/\y=!b:=by
 rintro z hz;rw[JI];obtain⟨c,x,tok,lb,bd⟩:=z;simp[qs1,qls,qoM,lz,kQ,h1,hz,-fB',-eB'];exactλy a=>a
abbrev qiV:Spc:=ax (a2 B B) (λx=>∃b,R1 x.1 x.2=some b) (enc (X:=Bool)) λx y=>R1 x.1 x.2=some y
set_option maxHeartbeats 4000000 in
theorem qmM(n:Nat)(h0:S0 aN=qcu n)(h0':S0 cM=qiU n)(h1:S aN=qcu n)(h2:S cj=qf8 Cond S0)(h3:S kw=OT)(h4:S pU=Zw)(h5:S yg=qef)(h6:S bV=D3)(h7:S yf=qiV)(h8:S dQ=Va)(h9:S nH=qiZ):
 aq nQ nD S aH (qp4 (n+1)) (enc (X:=Bool)) (qp0 (n+1)):=by
 rintro⟨c,x,tok,lb,bd⟩ ⟨⟨z1,z2,z3⟩,y,hy⟩;simp only at z1 z2 z3;have hy0:qW ⟨c,tok,lb,bd⟩ (n+1) x=some y:=hy;have hQ:∀w,w=y->qp0 (n+1) (c,x,tok,lb,bd) w:=λw e=>by subst e;exact hy
 clear hy;obtain⟨op,name,arg,val,lab,fold,ks⟩:=x;unfold qW at hy0;simp only at hy0;have hval:∀i k:Int,qt3 c:=λ_ _=>⟨z1,z2,z3⟩
 simp[nQ,nD,-fB',-eB'];refine lE (X:=Unit) [5,6,7,8,9] [] [11] [] (λ_=>True) (λ_=>[(11, .cptr [.clo aN (qls (c,⟨op,name,arg,val,lab,fold,ks⟩,tok,lb,bd))] 0)]) (λ_=>[]) [] (λ_=>rfl) (by decide) ?_ ?_
 ·simp[qls,qoM];exactλb=> .box rfl
 rintro - -;simp only[qls,qoM];split at hy0;simp_all;rename_i e1;split at hy0
 ·rename_i e;subst e;have hM:qma (val,sk c.toks tok (qX c.attrs name),fold):=⟨y,hy0⟩
  simp[h3,h4,h5,z1,z2,z3,hM,-fB',-eB'];refine⟨z2,λw hw=>hQ _ (qGf (hw.symm.trans hy0))⟩
 rename_i e2;split at hy0
 ·rename_i e;subst e;have hM:∃b,R1 (sk c.toks tok (dU c.attrs name)) val=some b:=⟨y,hy0⟩
  simp[h6,h4,h7,z1,z2,z3,hM,-fB',-eB'];refine⟨z2,λw hw=>hQ _ (qGf (hw.symm.trans hy0))⟩
 rename_i e3;split at hy0
 ·rename_i e;subst e;split at hy0
  ·cases hy0
  rename_i hj;obtain⟨j,hjj⟩:∃j,j=fL lb λz=>decide (z=lab):=⟨_,rfl⟩
  rw[<-hjj]at hj hy0;cases ho:bd[j.toNat]? with
  |none=>rw[ho]at hy0;cases hy0
  |some o=>
  rw[ho]at hy0;have hy1:(decide (0<=o) && decide (sk c.toks tok (dU c.attrs name)=sk c.toks o (dU c.attrs arg)))=y:=qGf hy0;have j0:0<=j:=by omega
  obtain⟨hjl,hgo⟩:=qF4.1 ho;have j1:j<(bd.length:Int):=by omega
  by_cases h0o:0<=o
  ·simp[h8,<-hjj,j0,j1,ho,hgo,h0o,h6,h4,z1,z2,z3,-fB',-eB'];exact⟨⟨z2,hQ _ (by rw[<-hy1];simp[h0o])⟩,λh=>by omega⟩
  ·simp[h8,<-hjj,j0,j1,ho,hgo,h0o,-fB',-eB'];exactλ_=>hQ _ (by rw[<-hy1];simp[h0o])
 rename_i e4;split at hy0
 ·rename_i e;subst e;have hy1:=qGf hy0;simp[h9,-fB',-eB'];exact hQ _ hy1
 rename_i e5;split at hy0
 ·rename_i e;subst e;split at hy0
  ·rename_i k ks';obtain⟨b,hb,rfl⟩:=qGe.1 hy0;have hp:qp4 n (c,k,tok,lb,bd):=⟨⟨z1,z2,z3⟩,b,hb⟩
   simp[h1,hp,-fB',-eB'];intro w hw;have hw:qW ⟨c,tok,lb,bd⟩ n k=some w:=hw;rw[hb]at hw;cases hw;exact hQ _ rfl
  ·cases hy0
 rename_i e6;split at hy0
 rotate_left
 ·cases hy0
 rename_i hall;have hal:∀k∈ks,∃b,qW ⟨c,tok,lb,bd⟩ n k=some b:=λk hk=>qGK.1 (qGa.1 hall k hk)
 have hf2:FunOn S0 (.clo cM [.cptr [.clo aN (qls (c,⟨op,name,arg,val,lab,fold,ks⟩,tok,lb,bd))] 0]) ks λk=>!((qW ⟨c,tok,lb,bd⟩ n k).getD false):=
  zB (f:=λk=>(c,k,tok,lb,bd)) h0' (λk _=>LD qs1 qdX (c,k,tok,lb,bd)) (λk hk=>⟨⟨z1,z2,z3⟩,hal k hk⟩) (λk hk y hy=>by
   obtain⟨b,h1,h2⟩:=hy;have h1:qW ⟨c,tok,lb,bd⟩ n k=some b:=h1;rw[h2,h1];rfl)
 have hf1:FunOn S0 (.clo aN (qls (c,⟨op,name,arg,val,lab,fold,ks⟩,tok,lb,bd))) ks λk=>(qW ⟨c,tok,lb,bd⟩ n k).getD false:=
  zB (f:=λk=>(c,k,tok,lb,bd)) h0 (λk _=>LD qmk Nu (c,k,tok,lb,bd)) (λk hk=>⟨⟨z1,z2,z3⟩,hal k hk⟩) (λk hk y hy=>by
   have h1:qW ⟨c,tok,lb,bd⟩ n k=some y:=hy;rw[h1];rfl)
 split at hy0
 ·rename_i e;subst e;have hy1:=qGf hy0;simp[h2,-fB',-eB'];exact⟨⟨_,hf2⟩,λw hw=>hQ _ (by rw[hw _ hf2];exact hy1)⟩
 ·rename_i e7;have hy1:=qGf hy0;simp[h2,e1,e2,e3,e4,e5,e6,e7,-fB',-eB'];exact⟨⟨_,hf1⟩,λw hw=>hQ _ (by rw[hw _ hf1];exact hy1)⟩
def OG(c:Corpus)(x:Cond)(k:Nat):List Int:=((List.range k).filter λi:Nat=>(qW ⟨c,(i:Int), [], []⟩ 21 (dx x)).getD false).map λi:Nat=>(i:Int)
def uQ(c:Corpus)(x:Cond):List Int:=OG c x c.toks.length
def SD(c:Corpus)(x:Cond)(k:Nat):OG c x (k+1)=OG c x k++ (if(qW ⟨c,(k:Int), [], []⟩ 21 (dx x)).getD false=true then[(k:Int)]else[]):=by
 unfold OG;rw[List.range_succ,qHw,qHL];congr 1;simp only[List.filter];cases(qW ⟨c,(k:Int), [], []⟩ 21 (dx x)).getD false<;>rfl
def H4(c:Corpus)(x:Cond)(k:Nat):(OG c x k).length<=k:=by
 unfold OG;rw[qGE];exact qGA (List.length_filter_le _ _) (by simp)
def JK(z:Corpus×Cond):Prop:=qt3 z.1/\cR z.2<=60/\bi z.2<=60/\qmm z.1.attrs [] (dx z.2)=true/\∀i:Nat,i<z.1.toks.length->∃y,qW ⟨z.1,(i:Int), [], []⟩ 21 (dx z.2)=some y
abbrev qi4:Spc:=ax (a2 Corpus Cond) JK (iA (Y:=List Int) (Z:=Int)) λz y=>y=(uQ z.1 z.2,0)
theorem qhW(h1:S pS=Zr)(h2:S gA=qek)(h3:S eJ=Vd)(h4:S ku=OS 21):aq mK mq S (a2 Corpus Cond) JK (iA (Y:=List Int) (Z:=Int)) λz y=>y=(uQ z.1 z.2,0):=by
 rintro⟨c,x⟩ ⟨⟨t,u,j⟩,hn,A,h,d⟩;simp only at t u j hn A h d;have hl:(c.toks.length:Int)<=9223372036854775807:=by omega
 have q:∃n,bi x<=n/\cR x<=60:=⟨_,qGb _,hn⟩
 simp[mK,mq,h1,h2,h3,hn,A,h,q,hl,j,-fB',-eB'];intro b;refine⟨⟨_,qGb _⟩,⟨h,j⟩,?_⟩;refine ah (X:=Value×List Int) [2,3] [3] c.toks.length (λk z=>z.2=OG c x k) (λz=>[(7, .own 33 z.1)]) (λz=>[(33, .row z.1 bC 1 (z.2.map enc))]) (.slice none 0 0, []) (by simp[OG]) ?_ ?_ (hh:=by simp[isNilRow])
 ·rintro k ⟨v,l⟩ hk a;simp only at a;obtain⟨y,r⟩:=d k hk;have hp:qp4 21 (c,dx x,(k:Int), [], []):=⟨⟨t,u,j⟩,y,r⟩
  have hs:=SD c x k;have s:=H4 c x k;rw[<-a]at hs s;have C:(if(qW ⟨c,(k:Int), [], []⟩ 21 (dx x)).getD false=true then[(k:Int)]else[])=if y=true then[(k:Int)]else[]:=by rw[r];rfl
  rw[C]at hs;simp[hk,h4,hp,-fB',-eB'];intro w p;have p:qW ⟨c,(k:Int), [], []⟩ 21 (dx x)=some w:=p;rw[r]at p;cases p;refine⟨λe=>⟨by omega,by omega,λv'=> .inl ?_⟩,λe=> .inl ?_⟩
  ·rw[hs,e];simp
  ·rw[hs,e];simp
 ·rintro⟨v,l⟩ a;simp only at a;simp[-fB',-eB'];have e:uQ c x=l:=a.symm;rw[e];exact fq bC rfl
end
section
open Go.Proofs
def xa:CC:=gq Tryz.f11 [] {} _
def wM:List ai:=[.tmp 4]
def ZT:FO AW [] xa wM 26:=fo
def valsA:List B:=[⟨#[97]⟩,⟨#[98]⟩,⟨#[97,46,42]⟩,⟨#[91,97,98,93]⟩,⟨#[88]⟩,⟨#[]⟩,⟨#[99,63]⟩,⟨#[97,124,98]⟩,⟨#[89]⟩,⟨#[111,46,42]⟩,⟨#[78]⟩,⟨#[97,124,88]⟩]
def wordsA:List B:=[⟨#[97]⟩,⟨#[98]⟩,⟨#[99]⟩,⟨#[65]⟩,⟨#[97,98]⟩,⟨#[]⟩,⟨#[88]⟩,⟨#[89]⟩,⟨#[116,104,101]⟩,⟨#[111,108,100]⟩,⟨#[109,97,110]⟩,⟨#[68]⟩,⟨#[65]⟩,⟨#[78]⟩,⟨#[124]⟩,⟨#[124,112,124]⟩,⟨#[124,112,124,113,124]⟩,⟨#[124,113,124]⟩]
def qt2:Bool:=valsA.all λv=>wordsA.all λw=>(Gp v w false).isSome && (Gp v w true).isSome
def qnT:qt2=true:=by kernel_rfl
def PJ{v w:B}(a:v∈valsA)(b:w∈wordsA)(f:Bool):∃y,Gp v w f=some y:=by
 have h:=qGa.1 (qGa.1 qnT v a) w b;simp only[qF9]at h;cases f
 ·exact qGK.1 h.1
 ·exact qGK.1 h.2
open Cod (enc dec)
variable {S S0:Nat->Spc}
def qED:Corpus:=⟨[⟨⟨#[119,111,114,100]⟩,false⟩,⟨⟨#[112,111,115]⟩,false⟩], [[⟨#[116,104,101]⟩,⟨#[68]⟩], [⟨#[111,108,100]⟩,⟨#[65]⟩], [⟨#[109,97,110]⟩,⟨#[78]⟩]], [⟨⟨#[116]⟩,0,3, []⟩], [], [], [], []⟩
def EW(a b:List Int):Bool:=decide (a=b)
abbrev qcx:Spc:=ax (a2 (List Int) (List Int)) (λx=>x.1.length<=100000/\x.2.length<=100000) (enc (X:=Bool)) λx y=>y=EW x.1 x.2
theorem qbP:aq xa wM S (a2 (List Int) (List Int)) (λx=>x.1.length<=100000/\x.2.length<=100000) (enc (X:=Bool)) λx y=>y=EW x.1 x.2:=by
 rintro⟨a,b⟩ ⟨la,lb⟩;simp only at la lb;have p:(a.length:Int)<=9223372036854775807:=by omega
 have q:(b.length:Int)<=9223372036854775807:=by omega
 by_cases hl:a.length=b.length
 ·have c:(a.length:Int)=b.length:=by omega
  simp[xa,wM,p,q,hl,c,-fB',-eB'];refine ah (X:=Unit) [0,1] [] b.length (λk _=>a.take k=b.take k) (λ_=>[]) (λ_=>[]) () (by simp) ?_ ?_
  ·rintro k -hk u;have d:k<a.length:=by omega
   obtain⟨x,r⟩:=aM d;obtain⟨y,l⟩:=aM hk;obtain⟨_,s⟩:=qF4.1 r;obtain⟨_,t⟩:=qF4.1 l;have w:EW a b=decide (a=b):=rfl;by_cases h:x=y
   ·subst h;simp[hk,d,r,l,s,t,-fB',-eB'];rw[au r,au l,u]
   ·have j:EW a b=false:=by
     unfold EW;rw[decide_eq_false_iff_not];intro e;subst e;rw[r]at l;exact h (qGf l)
    simp[hk,d,r,l,s,t,h,j,-fB',-eB']
  ·rintro -u;rw[<-hl,qGc,hl,qGc]at u;have he:EW a b=true:=decide_eq_true u;simp[he,-fB',-eB']
 ·have c:¬(a.length:Int)=b.length:=by omega
  have j:EW a b=false:=by
   unfold EW;rw[decide_eq_false_iff_not];intro e;exact hl (by rw[e])
  simp[xa,wM,p,q,hl,c,j,-fB',-eB']
end
section
open Cod (enc dec)
variable {S:Nat->Spc}
abbrev tb:Spc:=ax (a1 Int) (λ_=>True) enc λ_ y=>y=false
def MF:aq rI qN S (a1 Int) (λ_=>True) enc λ_ y=>y=false:=by
 rintro x -;simp[rI,qN]
def Sc(a b:Int):Int:=if a<b then -1 else if b<a then 1 else 0
abbrev ou:Spc:=ax (a2 Int Int) (λ_=>True) enc λx y=>y=Sc x.1 x.2
def HB(h1:S np=tb):aq nR nE S (a2 Int Int) (λ_=>True) enc λx y=>y=Sc x.1 x.2:=by
 rintro⟨a,b⟩ -;simp_all [nR,nE,Sc,if_neg]
abbrev Aa:Spc:=ax (a1 (List Int)) (λ_=>True) enc λx y=>y=(x.find? (· ≠0)).getD 0
def UF:aq yB xO S (a1 (List Int)) (λ_=>True) enc λx y=>y=(x.find? (· ≠0)).getD 0:=by
 rintro l -;simp[yB,xO];intro _;refine ah (X:=Unit) [3,6] [] l.length (λk _=>(l.find? λx=>!decide (x=0))=(l.drop k).find? λx=>!decide (x=0)) (λ_=>[]) (λ_=>[]) () (by simp) ?_ ?_
 ·intro k _ hk a;simp;refine⟨hk,λx b=>?_⟩;rw[bE b]at a;grind
 ·intro _ a;rw[qGU]at a;simp[a]
def KX(x n:Int):Int:=if n< 1 then 0 else if x.tmod n< 0 then x.tmod n+n else x.tmod n
abbrev s_m_Mod:Spc:=ax (a2 Int Int) (λx=>x.2<=1000000000) enc λx y=>y=KX x.1 x.2
def qmK:aq Qw OY S (a2 Int Int) (λx=>x.2<=1000000000) enc λx y=>y=KX x.1 x.2:=by
 rintro⟨a,b⟩ hl;simp at hl;simp[Qw,OY,KX];refine⟨λh1 h2=>by omega,λh1=>⟨by omega,λh2=>⟨?_,?_⟩,λh2=>?_⟩⟩
 ·have:=Int.lt_tmod_of_pos a (b:=b) (by omega);grind [InR]
 omega;omega
end
section
open Cod (enc dec)
variable {S S0:Nat->Spc}
def PE(x n:Int)(h:1<=n):0<=KX x n/\KX x n<n:=by
 unfold KX;rw[if_neg (by omega)];have h1:=Int.tmod_lt_of_pos x (show 0<n by omega);have h2: -n<x.tmod n:=by
  have h3:=Int.natAbs_tmod x n;have h4:x.natAbs % n.natAbs<n.natAbs:=qHu _ (by omega);omega
 split<;>omega
def qte:CC:= .reg [
 .op (some 4) none (.mv (.const (.int .i64 0)))]
def qri:CC:= .seq (.regd [
 .op (some 5) none (.mv (.tmp 0)),
 .op (some 6) none (.nilck (.tmp 5)),
 .op (some 7) none (.faddr 1 (.tmp 6)),
 .op (some 8) none (.load false 1 (.tmp 7)),
 .op (some 9) none (.mv (.tmp 0)),
 .op (some 10) none (.nilck (.tmp 9)),
 .op (some 11) none (.faddr 0 (.tmp 10)),
 .op (some 12) none (.load false 1 (.tmp 11)),
 .op (some 13) none (.len (.tmp 12))] [
 .op (some 14) none (.cmp .geq (.tmp 8) (.tmp 13))]) (.ite (.tmp 14) (.seq (.reg [
  .op (some 4) none (.mv (.const (.int .i64 0)))]) .ret) .skip)
def qpJ:CC:= .reg [
 .op (some 15) none (.mv (.tmp 0)),
 .op (some 16) none (.nilck (.tmp 15)),
 .op (some 17) none (.faddr 1 (.tmp 16)),
 .op (some 18) none (.load false 1 (.tmp 17)),
 .op (some 19) none (.arith .add (.tmp 18) (.const (.int .i64 1))),
 .op (some 20) none (.nilck (.tmp 15)),
 .op (some 21) none (.faddr 1 (.tmp 20)),
 .op none none (.store none 1 (.tmp 21) (.tmp 19))]
def qtd:CC:= .seq (.regd [
 .op (some 22) none (.mv (.tmp 0)),
 .op (some 23) none (.nilck (.tmp 22)),
 .op (some 24) none (.faddr 0 (.tmp 23)),
 .op (some 25) none (.load false 1 (.tmp 24)),
 .op (some 26) none (.mv (.tmp 0)),
 .op (some 27) none (.nilck (.tmp 26)),
 .op (some 28) none (.faddr 1 (.tmp 27)),
 .op (some 29) none (.load false 1 (.tmp 28)),
 .op (some 30) none (.arith .sub (.tmp 29) (.const (.int .i64 1))),
 .op (some 31) none (.iaddr 1 (.tmp 25) (.tmp 30)),
 .op (some 32) none (.load false 1 (.tmp 31)),
 .op (some 33) none (.mv (.tmp 1))] [
 .op (some 34) none (.call wZ [(.tmp 32),(.tmp 33)]),
 .op (some 4) none (.mv (.tmp 34))]) .ret
def qjO:bI wn= .seq qte (.seq qri (.seq qpJ qtd)):=rfl
def quF:bI qte=qte:=rfl
def quE:bI qri=qri:=rfl
def quD:bI qpJ=qpJ:=rfl
def quC:bI qtd=qtd:=rfl
def qpI(b:Nat)(s:Value)(i n:Int):Ex->Sg->ab->Prop:=λe a H=>match e with
 | .norm=>a 0= .bptr 0 b 0/\a 1= .v (.int .i64 n)/\H 0=some (.box b [.v s, .v (.int .i64 (i+1))])/\i<slen s
 | .ret=>a 4= .v (.int .i64 0)/\H 0=some (.box b [.v s, .v (.int .i64 i)])
 | .ex _=>False
@[simp ↓] theorem qEr(b:Nat)(s:Value)(i n:Int)(a:Sg)(H:ab):qpI b s i n .norm a H=(a 0= .bptr 0 b 0/\a 1= .v (.int .i64 n)/\H 0=some (.box b [.v s, .v (.int .i64 (i+1))])/\i<slen s):=i' rfl
@[simp ↓] theorem qEq(b:Nat)(s:Value)(i n:Int)(a:Sg)(H:ab):qpI b s i n .ret a H=(a 4= .v (.int .i64 0)/\H 0=some (.box b [.v s, .v (.int .i64 i)])):=i' rfl
def qnN(b:Nat)(a:Option Addr)(len cap:Nat)(i n:Int)(h0:0<=i)(hl:(len:Int)<=9223372036854775807):vc S (.seq qte (.seq qri qpJ)) (qpI b (.slice a len cap) i n) (dI [.bptr 0 b 0, .v (.int .i64 n)]) (aj dm 0 (some (.box b [.v (.slice a len cap), .v (.int .i64 i)]))):=by
 simp[qte,qri,qpJ,slen];intro h;exact⟨by simp only[InR];omega,h⟩
def qEp(n:Int):Ex->Sg->ab->Prop:=λe a H=>match e with
 | .ret=>∃y,a 4= .v (.int .i64 y)/\(n< 1/\y=0\/1<=n/\0<=y/\y<n)
 | _=>False
@[simp ↓] theorem qEo(n:Int)(a:Sg)(H:ab):qEp n .ret a H=(∃y,a 4= .v (.int .i64 y)/\(n< 1/\y=0\/1<=n/\0<=y/\y<n)):=i' rfl
def qnM(hm:S wZ=s_m_Mod)(L:List Int)(i n:Int)(h0:0<=i)(hi:i<L.length)(hn:n<=1000000000)(hl:(L.length:Int)<=9223372036854775807):vc S qtd (qEp n) (dI [.cptr [.list 1 (L.map enc), .v (.int .i64 (i+1))] 0, .v (.int .i64 n)]) dm:=by
 obtain⟨x,b⟩:=aR (l:=L) (k:=i.toNat) (by omega);simp[qtd,hm];refine⟨by simp only[InR];omega,h0,hi,λa _=>⟨hn,?_⟩⟩;rcases Int.lt_or_le n 1 with h|h
 ·exact .inl ⟨h,by simp[KX,h]⟩
 ·exact .inr ⟨h,PE a n h⟩
end
end Go.Gv
