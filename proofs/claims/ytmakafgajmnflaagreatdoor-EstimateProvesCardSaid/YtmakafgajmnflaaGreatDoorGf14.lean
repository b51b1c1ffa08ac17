/- W140 -/
import Derived.Laws.RangeString
import Derived.Test.YtmakafgajmnflaaGreatDoorGf13
set_option linter.all false
set_option maxRecDepth 100000
set_option maxHeartbeats 0
open Bool renaming forall_bool → fB', exists_bool → eB'
namespace Go.Gv
section
open Cod (enc dec)
variable {S S0:Nat->Spc}
@[simp] theorem qvj(t:Tbk):Tbk.mk t.lvs t.fi t.la t.fol t.nul=t:=i' rfl
abbrev RP:Spc:=qiQ (a2 U64 U64) Ti GH
def qa1(fr to:U64):∀(l:List U64) (i:Nat),(qa2 fr to i l).length=l.length
 | [],_=>rfl
 |f::l,i=>by rw[qa2,qCZ,qCZ,qa1 fr to l (i+1)]
def Wi{fr to f:U64} :∀{l:List U64} {i k:Nat},l[k]? =some f->qa2 fr to i (l.take k) ++ (if qdV fr (i+k)=true then qj9 f to else f)::l.drop (k+1)=qa2 fr to i (l.take (k+1)) ++l.drop (k+1)
 | [],i,k,h=>by simp at h
 | g::l,i,0,h=>by
   simp at h;subst h;simp[qa2]
 | g::l,i,k+1,h=>by
   simp at h;have:=Wi (fr:=fr) (to:=to) (i:=i+1) h;rw[show i+1+k=i+ (k+1)by omega]at this;simp only[List.take_succ_cons,qa2,qC8,List.drop_succ_cons];rw[this]
theorem qmR:Jo kZ kB S (a2 U64 U64) Ti GH:=by
 rintro b v v' ⟨lv,fi,la,fo,w⟩ ⟨fr,to⟩ r h;unfold GH at h;simp only at h;split at h
 ·rename_i hlen;cases h;have hl:(fo.length:Int)<=9223372036854775807:=by omega
  simp[kZ,kB,ye,qA,qB,vk,hl,-fB',-eB'];refine ah (X:=List U64) [0,1,2] [] fo.length (λk x=>x=qa2 fr to 0 (fo.take k) ++fo.drop k) (λx=>[]) (λx=>[(0, .box b [.own 990 v, .v (.int .u64 fi.val), .v (.int .u64 la.val), .own 991 v', .v (.bool w)]),(990, .row v eS 1 (lv.map enc)),(991, .row v' fO 1 (x.map enc))]) fo (by simp[qa2]) ?_ ?_
  ·rintro k x hk d;obtain⟨f,A⟩:∃f,fo[k]? =some f:=⟨_,qCe hk⟩
   have a:(qa2 fr to 0 (fo.take k)).length=k:=by rw[qa1,qCI];omega
   have q:x.length=fo.length:=by rw[d,qCJ,a,qDk];omega
   have j:x[k]? =some f:=by
    rw[d,qCG (by omega),a,qD0,qDb];simpa using A
   have s:x.drop (k+1)=fo.drop (k+1):=by
    rw[d,List.drop_append,a,List.drop_drop,qDl (by rw[a];omega)];simp
   have t:x.take k=qa2 fr to 0 (fo.take k):=by
    rw[d,List.take_append,a,qD0,qDR,qDo,qC7 (by rw[a];omega)]
   have l:∀g,x.set k g=qa2 fr to 0 (fo.take k) ++g::fo.drop (k+1):=λg=>by
    rw[qD7,if_pos (by omega),t,s]
   have c:=Wi (fr:=fr) (to:=to) (i:=0) A;rw[qCR,<-l]at c;have u:k<x.length:=by omega
   obtain⟨_,p⟩:=qCd.1 j;simp[u,j,p,hk,q,-fB',-eB'];refine⟨λhb=>?_,λhb=>?_⟩
   ·rw[if_pos hb]at c;left;rw[<-List.map_drop,<-qDZ,<-c,qEg];rfl
   ·rw[if_neg (by simp[hb])]at c;rw[show x.set k f=x from by rw[<-p];exact List.set_getElem_self _]at c;exact .inl c
  ·rintro x d;rw[qCx,qC2,qDo]at d;subst d;simp[-fB',-eB'];exact qmi (er:=Ti) (y:=()) v v' ⟨lv,fi,la,qa2 fr to 0 fo,w⟩ (.same _) rfl rfl rfl rfl
 ·cases h
attribute [simp] YB qfK
@[simp] theorem qtv{Y Z:Type}(er:Y->D)(F:Tbk->Z->Option (Tbk×Y))(id b:Nat)(v v':Value)(f l:Int)(n:Bool)(lv:List (List Rng))(fo:List U64)(o:Option Z)(H:ab)(K:D->ab->Prop):
 UH er F id b (some (.box b [.own 990 v, .v (.int .u64 f), .v (.int .u64 l), .own 991 v', .v (.bool n)])) (some (.row v eS 1 (lv.map enc))) (some (.row v' fO 1 (fo.map enc))) o H K=(id≠990/\id≠991/\eX o λz=>eX (F ⟨lv,⟨f⟩,⟨l⟩,fo,n⟩ z) λq=>∀w w',K (er q.2) (ai (ai (ai H 991 (some (.row w' fO 1 (q.1.fol.map enc)))) 990 (some (.row w eS 1 (q.1.lvs.map enc)))) id (some (.box b [.own 990 w, .v (.int .u64 q.1.fi.val), .v (.int .u64 q.1.la.val), .own 991 w', .v (.bool q.1.nul)])))):=qm4 er F id b v v' f l n lv fo o H K
abbrev Lb:Spc:=qiQ (a2 Prt Prt) (enc (X:=Prt)) Az
def yq{b:Nat}{post:Tbk->Prt->Prop}{d:D}{H:ab}(v v':Value)(t:Tbk)(y:Prt)(a:d=enc y)(h0:H 0=some (.box b (vk v v' t)))(h1:H 990=some (qA v t.lvs))(h2:H 991=some (qB v' t.fol))(c:post t y):X5 enc b post d H:=
 qmi (er:=enc) (y:=y) v v' t (by rw[a];exact .same _) h0 h1 h2 c
def qek(h1:S gJ=RP):Jo iP iy S (a2 Prt Prt) (enc (X:=Prt)) Az:=by
 rintro b v v' ⟨lv,fi,la,fo,d⟩ ⟨⟨h,j,an⟩,⟨k,bl,c⟩⟩ r a;unfold Az at a;simp only at a;obtain⟨q,hl,rfl⟩:=qCn.1 a;cases an<;>cases c<;>simp[iP,iy,ye,qA,qB,vk,h1,hl,-fB',-eB'] <;>intro b1 w w'<;>exact yq w w' q.1 _ rfl rfl rfl rfl ⟨rfl,rfl⟩
def qf0{set f:U64}{l:List U64}{k:Nat}(h:l[k]? =some f)(m:U64):ql7 set k (l.drop k) m=ql7 set (k+1) (l.drop (k+1)) (if qdV set k=true then qj9 m f else m):=by
 obtain⟨h1,h2⟩:=qCd.1 h;rw[qCO h1,h2,ql7]
abbrev Mb(n:Nat):Spc:=qiQ (a1 Rx) (enc (X:=Prt)) (EX n).b
abbrev qe3(n:Nat):Spc:=qiQ (a1 Rx) (enc (X:=Prt)) (EX n).r
abbrev YJ(n:Nat):Spc:=qiQ (a2 Rx Int) (enc (X:=Prt)) (EX n).o
def TE{X:Type}{l:List X}{k:Nat}(h:k<l.length):∃x,l[k]? =some x:=⟨_,qCe h⟩
def vg{X:Type}{l:List X}{k:Nat}{x:X}(h:l[k]? =some x):l.drop k=x::l.drop (k+1):=by
 obtain⟨h1,h2⟩:=qCd.1 h;rw[qCO h1,h2]
set_option maxHeartbeats 1000000 in
theorem qji(n:Nat)(h1:S dh=Mb n)(h2:S jw=qe3 n)(h3:S dK=Lb):Jo cR cN S (a1 Rx) (enc (X:=Prt)) (EX (n+1)).b:=by
 rintro b v v' t ⟨op,mn,mx,rs,ks⟩ r hF;replace hF:qoY (EX n).b (EX n).r t ⟨op,mn,mx,rs,ks⟩=some r:=hF;unfold qoY at hF;simp only at hF;split at hF
 ·cases hF
 rename_i hok;have hok1:t.lvs.length<=1000/\t.fol.length<=1000:=by
  cases hb:Sw t with
  |true=>exact of_decide_eq_true hb
  |false=>exact absurd (.inl hb) hok
 have hkl:ks.length<=1000:=by
  have:¬1000<ks.length:=λh=>hok (.inr h)
  omega
 obtain⟨hlv,hfo⟩:=hok1;have hkl':(ks.length:Int)<=9223372036854775807:=by omega
 have hlv':(t.lvs.length:Int)<=9223372036854775807:=by omega
 split at hF
 ·rename_i e;subst e;obtain rfl:=qCr hF;simp[cR,cN,ye,qA,qB,vk,hlv',-fB',-eB'];refineλb1=>⟨by omega,by omega,λw=>⟨by omega,by omega,λw'=>?_⟩⟩
  exact yq w w' ⟨t.lvs++ [rs],t.fi,t.la,t.fol++ [⟨0⟩],t.nul⟩ ⟨⟨RL .u64 1 t.lvs.length⟩,⟨RL .u64 1 t.lvs.length⟩,false⟩ rfl rfl (by simp[qA,ai]) (by simp[qB,ai]) ⟨rfl,rfl⟩
 rename_i e1;split at hF
 ·rename_i e;subst e;simp[cR,cN,ye,qA,qB,vk,hkl',-fB',-eB'];intro b4 b6;refine ah (X:=Tbk×Prt×Value×Value) [0,4,6,50] [4] ks.length (λk x=>qsn (EX n).b (ks.drop k) x.1 x.2.1=some r) (λx=>[]) (λx=>[(0, .box b [.own 990 x.2.2.1, .v (.int .u64 x.1.fi.val), .v (.int .u64 x.1.la.val), .own 991 x.2.2.2, .v (.bool x.1.nul)]),(990, .row x.2.2.1 eS 1 (x.1.lvs.map enc)),(991, .row x.2.2.2 fO 1 (x.1.fol.map enc)),(6, .box b6 [.v (.int .u64 x.2.1.first.val), .v (.int .u64 x.2.1.last.val), .v (.bool x.2.1.nul)])]) (t,Eu,v,v') (by simpa using hF) ?_ ?_ (hh:=by simp[Eu])
  ·rintro k ⟨t,p,w,w'⟩ hk hx;obtain⟨y,hy⟩:=TE hk;obtain⟨_,hgy⟩:=qCd.1 hy;rw[vg hy,qsn]at hx;obtain⟨q,hq,hx⟩:=qCc.1 hx;obtain⟨c,hc,hx⟩:=qCc.1 hx;simp[hk,hy,hgy,h1,h3,hq,hc,-fB',-eB'];exactλu u'=>⟨c.1,c.2,hx,u,u', .inl ⟨rfl,rfl,rfl,rfl,rfl⟩, .inl ⟨rfl,rfl⟩, .inl ⟨rfl,rfl⟩, .inl ⟨rfl,rfl,rfl⟩⟩
  ·rintro⟨t,p,w,w'⟩ hx;rw[qC2,qsn]at hx;obtain rfl:=qCr hx;simp[-fB',-eB'];exact yq w w' t p rfl rfl rfl rfl ⟨rfl,rfl⟩
 rename_i e2;split at hF
 ·rename_i e;subst e;simp[cR,cN,ye,qA,qB,vk,hkl',-fB',-eB'];intro b4 b9;refine ah (X:=Tbk×Prt×Value×Value) [0,4,9,67] [4] ks.length (λk x=>qd3 (EX n).b (ks.drop k) x.1 x.2.1=some r) (λx=>[]) (λx=>[(0, .box b [.own 990 x.2.2.1, .v (.int .u64 x.1.fi.val), .v (.int .u64 x.1.la.val), .own 991 x.2.2.2, .v (.bool x.1.nul)]),(990, .row x.2.2.1 eS 1 (x.1.lvs.map enc)),(991, .row x.2.2.2 fO 1 (x.1.fol.map enc)),(9, .box b9 [.v (.int .u64 x.2.1.first.val), .v (.int .u64 x.2.1.last.val), .v (.bool x.2.1.nul)])]) (t,qxq,v,v') (by simpa using hF) ?_ ?_ (hh:=by simp[qxq])
  ·rintro k ⟨t,p,w,w'⟩ hk hx;obtain⟨y,hy⟩:=TE hk;obtain⟨_,hgy⟩:=qCd.1 hy;rw[vg hy,qd3]at hx;obtain⟨q,hq,hx⟩:=qCc.1 hx;simp[hk,hy,hgy,h1,hq,-fB',-eB'];refineλu u'=>⟨λhn=>⟨q.1,_,hx,u,u', .inl ⟨rfl,rfl,rfl,rfl,rfl⟩, .inl ⟨rfl,rfl⟩, .inl ⟨rfl,rfl⟩, .inl ⟨rfl,rfl,by simp[hn]⟩⟩,λhn=>⟨q.1,_,hx,u,u', .inl ⟨rfl,rfl,rfl,rfl,rfl⟩, .inl ⟨rfl,rfl⟩, .inl ⟨rfl,rfl⟩, .inl ⟨rfl,rfl,by simp[hn]⟩⟩⟩
  ·rintro⟨t,p,w,w'⟩ hx;rw[qC2,qd3]at hx;obtain rfl:=qCr hx;simp[-fB',-eB'];exact yq w w' t p rfl rfl rfl rfl ⟨rfl,rfl⟩
 rename_i e3;simp[cR,cN,ye,qA,qB,vk,h2,e1,e2,e3,hF,-fB',-eB'];intro b1 w w';exact yq w w' r.1 r.2 rfl rfl rfl rfl rfl
def yl{t:Tbk}(h:Sw t≠false):t.lvs.length<=1000/\t.fol.length<=1000:=by
 cases hb:Sw t with
 |true=>exact of_decide_eq_true hb
 |false=>exact absurd hb h
set_option maxHeartbeats 1000000 in
theorem Yf(n:Nat)(h1:S dh=Mb n)(h2:S eO=YJ n)(h3:S dK=Lb):Jo cV cS S (a2 Rx Int) (enc (X:=Prt)) (EX (n+1)).o:=by
 rintro b v v' t ⟨y,m⟩ r hF;replace hF:qnM (EX n).b (EX n).o t ⟨y,m⟩=some r:=hF;unfold qnM at hF;simp only at hF;split at hF
 ·cases hF
 rename_i hok;have hok1:=yl λh=>hok (.inr (.inr h))
 have hm0:0<=m:=by have:¬m< 0:=λh=>hok (.inl h);omega
 have hm1:m<=100:=by have:¬100<m:=λh=>hok (.inr (.inl h));omega
 obtain⟨hlv,hfo⟩:=hok1;have hlv':(t.lvs.length:Int)<=9223372036854775807:=by omega
 split at hF
 ·rename_i e;subst e;obtain rfl:=qCr hF;simp[cV,cS,ye,qA,qB,vk,-fB',-eB'];intro b1;exact yq v v' t Eu rfl rfl rfl rfl ⟨rfl,rfl⟩
 rename_i e0;obtain⟨q,hq,hF⟩:=qCc.1 hF;split at hF
 ·cases hF
 rename_i hok2;have hok3:=yl hok2;obtain⟨hlq,hfq⟩:=hok3;have hlq':(q.1.lvs.length:Int)<=9223372036854775807:=by omega
 split at hF
 ·rename_i e;obtain rfl:=qCr hF;have e':(q.1.lvs.length:Int)=t.lvs.length:=by omega
  simp[cV,cS,ye,qA,qB,vk,h1,hq,e0,hlv',hlq',e,e',-fB',-eB'];intro b1 w w';exact yq w w' q.1 Eu rfl rfl rfl rfl ⟨rfl,rfl⟩
 rename_i e;obtain⟨c,hc,hF⟩:=qCc.1 hF;obtain⟨l,hl,hF⟩:=qCn.1 hF;subst hF;have e':¬(q.1.lvs.length:Int)=t.lvs.length:=by omega
 have hin:InR .i64 (m -1):=by simp only[InR];omega
 simp[cV,cS,ye,qA,qB,vk,h1,h2,h3,hq,hc,hl,e0,hlv',hlq',e,e',hin,-fB',-eB'];exactλb1 w w'=>yq w w' l.1 _ rfl rfl rfl rfl ⟨rfl,rfl⟩
def ql1(b:Tbk->Rx->Option (Tbk×Prt))(o:Tbk->Rx×Int->Option (Tbk×Prt))(y:Rx)(mn mx:Int)(q:Tbk×Prt×Bool):Option (Tbk×Prt):=
 if q.2.2=true then some (q.1,Eu)else
  if mx< 0/\mn=0 then(b q.1 y).bind λr=>(GH r.1 (r.2.last,r.2.first)).map λl=>(l.1, { r.2 with nul:=true })else
  if mn<mx then(o q.1 (y,mx -mn)).bind λr=>Az r.1 (q.2.1,r.2)else some (q.1,q.2.1)
set_option maxHeartbeats 2000000 in
theorem qeh(n:Nat)(h1:S dh=Mb n)(h2:S eO=YJ n)(h3:S dK=Lb)(h4:S gJ=RP):Jo iO ix S (a1 Rx) (enc (X:=Prt)) (EX (n+1)).r:=by
 rintro b v v' t ⟨op,mn,mx,rs,ks⟩ r hF;replace hF:qfB (EX n).b (EX n).o t ⟨op,mn,mx,rs,ks⟩=some r:=hF;unfold qfB at hF;simp only at hF;split at hF
 ·cases hF
 rename_i y ks';split at hF
 ·cases hF
 rename_i hrng;obtain⟨q,hq,hF⟩:=qCc.1 hF;have hF:ql1 (EX n).b (EX n).o y mn mx q=some r:=hF;have hm:mn=(mn.toNat:Int):=by omega
 generalize mn.toNat=m at hm hq;subst hm;have hm':(m:Int)<=9223372036854775807:=by omega
 have hpos:(0:Int)<((y::ks').length:Int):=by simp
 simp[iO,ix,ye,qA,qB,vk,hm',-fB',-eB'];intro b4 b5;refine ah (X:=Tbk×Prt×Value×Value) [0,3,4,5] [4] m (λk x=>(qq1 (EX n).b y mx (m -k) x.1 x.2.1).bind (ql1 (EX n).b (EX n).o y m mx)=some r) (λx=>[]) (λx=>[(0, .box b [.own 990 x.2.2.1, .v (.int .u64 x.1.fi.val), .v (.int .u64 x.1.la.val), .own 991 x.2.2.2, .v (.bool x.1.nul)]),(990, .row x.2.2.1 eS 1 (x.1.lvs.map enc)),(991, .row x.2.2.2 fO 1 (x.1.fol.map enc)),(5, .box b5 [.v (.int .u64 x.2.1.first.val), .v (.int .u64 x.2.1.last.val), .v (.bool x.2.1.nul)])]) (t,Eu,v,v') (by simp[hq,hF]) ?_ ?_ (hh:=by simp[Eu])
 ·rintro k ⟨t,p,w,w'⟩ hk hx;rw[show m -k=(m - (k+1)) +1 by omega,qq1]at hx;simp only at hx;split at hx
  ·cases hx
  rename_i hok;obtain⟨hlv,hfo⟩:=yl hok;have hlv':(t.lvs.length:Int)<=9223372036854775807:=by omega
  cases hb:(EX n).b t y with
  |none=>rw[hb]at hx;cases hx
  |some c=>
  rw[hb,qCy]at hx;split at hx
  ·cases hx
  rename_i hok2;obtain⟨hlq,hfq⟩:=yl hok2;have hlq':(c.1.lvs.length:Int)<=9223372036854775807:=by omega
  split at hx
  ·rename_i e;have e':(c.1.lvs.length:Int)=t.lvs.length:=by omega
   simp[hk,h1,hb,hlv',hlq',e,e',-fB',-eB'];have hx:some (c.1,Eu)=some r:=hx;obtain rfl:=qCr hx;exactλu u'=>yq u u' c.1 Eu rfl rfl rfl rfl rfl
  rename_i e;have e':¬(c.1.lvs.length:Int)=t.lvs.length:=by omega
  have hin:InR .i64 ((m:Int) -1):=by simp only[InR];omega
  by_cases hmx:mx< 0
  ·by_cases hkm:m - (k+1)=0
   ·rw[if_pos ⟨hmx,hkm⟩]at hx;have hkm':(k:Int)=m -1:=by omega
    cases hl:GH c.1 (c.2.last,c.2.first)with
    |none=>rw[hl]at hx;cases hx
    |some l=>
    rw[hl,qCy]at hx;cases hc:Az l.1 (p,c.2)with
    |none=>rw[hc]at hx;cases hx
    |some d=>
    rw[hc,qCy]at hx;simp[hk,h1,h3,h4,hb,hl,hc,hlv',hlq',e,e',hin,hmx,hkm',-fB',-eB'];exactλu u'=>⟨d.1,d.2,hx,u,u', .inl ⟨rfl,rfl,rfl,rfl,rfl⟩, .inl ⟨rfl,rfl⟩, .inl ⟨rfl,rfl⟩, .inl ⟨rfl,rfl,rfl⟩⟩
   ·rw[if_neg (λh=>hkm h.2)]at hx;have hkm':¬(k:Int)=m -1:=by omega
    rw[qCy]at hx;cases hc:Az c.1 (p,c.2)with
    |none=>rw[hc]at hx;cases hx
    |some d=>
    rw[hc,qCy]at hx;simp[hk,h1,h3,h4,hb,hc,hlv',hlq',e,e',hin,hmx,hkm',-fB',-eB'];exactλu u'=>⟨d.1,d.2,hx,u,u', .inl ⟨rfl,rfl,rfl,rfl,rfl⟩, .inl ⟨rfl,rfl⟩, .inl ⟨rfl,rfl⟩, .inl ⟨rfl,rfl,rfl⟩⟩
  ·rw[if_neg (λh=>hmx h.1)]at hx;rw[qCy]at hx;cases hc:Az c.1 (p,c.2)with
   |none=>rw[hc]at hx;cases hx
   |some d=>
   rw[hc,qCy]at hx;simp[hk,h1,h3,h4,hb,hc,hlv',hlq',e,e',hmx,-fB',-eB'];exactλu u'=>⟨d.1,d.2,hx,u,u', .inl ⟨rfl,rfl,rfl,rfl,rfl⟩, .inl ⟨rfl,rfl⟩, .inl ⟨rfl,rfl⟩, .inl ⟨rfl,rfl,rfl⟩⟩
 ·rintro⟨t,p,w,w'⟩ hx;simp only[qD0,qq1,qCy]at hx;have hx:(if mx< 0/\(m:Int)=0 then((EX n).b t y).bind λr=>(GH r.1 (r.2.last,r.2.first)).map λl=>(l.1, { r.2 with nul:=true })else
   if(m:Int)<mx then((EX n).o t (y,mx -m)).bind λr=>Az r.1 (p,r.2)else some (t,p))=some r:=hx
  by_cases hA:mx< 0/\(m:Int)=0
  ·rw[if_pos hA]at hx;obtain⟨hmx,hm0⟩:=hA;obtain⟨c,hb,hx⟩:=qCc.1 hx;obtain⟨l,hl,rfl⟩:=qCn.1 hx;have hm0':m=0:=by omega
   subst hm0';simp[h1,h4,hb,hl,hmx,-fB',-eB'];exactλu u'=>yq u u' l.1 _ rfl rfl rfl rfl ⟨rfl,rfl⟩
  ·rw[if_neg hA]at hx;by_cases hB:(m:Int)<mx
   ·rw[if_pos hB]at hx;obtain⟨c,hb,hx⟩:=qCc.1 hx;have n0:¬mx< 0:=by omega
    have hin:InR .i64 (mx -m):=by simp only[InR];omega
    simp[h2,h3,hb,hx,n0,hB,hin,-fB',-eB'];exactλu u'=>yq u u' r.1 r.2 rfl rfl rfl rfl rfl
   ·rw[if_neg hB]at hx;obtain rfl:=qCr hx;by_cases hmx:mx< 0
    ·have hm0:¬(m:Int)=0:=λh=>hA ⟨hmx,h⟩
     have hm0':¬m=0:=by omega
     simp[hmx,hm0,hm0',hB,-fB',-eB'];exact yq w w' t p rfl rfl rfl rfl ⟨rfl,rfl⟩
    ·simp[hmx,hB,-fB',-eB'];exact yq w w' t p rfl rfl rfl rfl ⟨rfl,rfl⟩
end
section
open Cod (enc dec)
def Zx(t:Tbk):D:= .cptr [enc t.lvs,enc t.fi,enc t.la,enc t.fol,enc t.nul] 0
def qhc{t t':Tbk}(h:Zx t=Zx t'):t=t':=by
 obtain⟨a1,a2,a3,a4,a⟩:=t;obtain⟨b1,b2,b,c,d⟩:=t';unfold Zx at h;injection h with h1 h2;simp only[qCL]at h1;obtain⟨h1,h2,h3,h4,h5,_⟩:=h1;have h1:=bi h1;have h2:=bi h2;have h3:=bi h3;have h4:=bi h4;have h5:=bi h5;subst h1;subst h2;subst h3;subst h4;subst h5;rfl
open Classical in
noncomputable instance:Cod Tbk where
 wd:=1
 enc:=Zx
 dec d:=if h:∃t,d=Zx t then some h.choose else none
 kn _:=rfl
 wid _:=rfl
 dec_enc t:=by
  have h:∃t',Zx t=Zx t':=⟨t,rfl⟩
  rw[dif_pos h];exact congrArg some (qhc h.choose_spec).symm
 le d x h:=by
  split at h
  ·rename_i h';cases h;rw[h'.choose_spec.symm];exact .same _
  ·cases h
@[simp] theorem qvq(t:Tbk):enc t= .cptr [enc t.lvs,enc t.fi,enc t.la,enc t.fol,enc t.nul] 0:=i' rfl
@[simp] theorem qvz(l:List (List Rng))(f a:Int)(fo:List U64)(n:Bool):dec (X:=Tbk) (.cptr [.list 1 (l.map enc), .v (.int .u64 f), .v (.int .u64 a), .list 1 (fo.map enc), .v (.bool n)] 0)=some ⟨l,⟨f⟩,⟨a⟩,fo,n⟩:=Cod.dec_enc (X:=Tbk) ⟨l,⟨f⟩,⟨a⟩,fo,n⟩
variable {S S0:Nat->Spc}
def qlD(n:Nat)(x:Rx):Prop:=(qjA n x).isSome=true
def qpc(n:Nat)(x:Rx)(t:Tbk):Prop:=qjA n x=some t
noncomputable abbrev qlX(n:Nat):Spc:=aJ (a1 Rx) (qlD n) (enc (X:=Tbk)) (qpc n)
theorem qwJ(n:Nat)(h1:S dh=Mb n):aq Ag za S (a1 Rx) (qlD n) (enc (X:=Tbk)) (qpc n):=by
 rintro x d;obtain⟨t,c⟩:=qDa.1 d;obtain⟨q,h,rfl⟩:=qCn.1 c;have a:(EX n).b ⟨[],⟨0⟩,⟨0⟩, [],false⟩ x=some q:=h;simp[Ag,za,-fB',-eB'];refine fE (X:=Nat) [1] [] [] [] (λ_=>True) (λb=>[(3, .bptr 6 b 0)]) (λb=>[(6, .box b [.own 990 (.slice none 0 0), .v (.int .u64 0), .v (.int .u64 0), .own 991 (.slice none 0 0), .v (.bool false)]),(990, .row (.slice none 0 0) eS 1 []),(991, .row (.slice none 0 0) fO 1 [])]) [6,990,991] (λ_=>rfl) (by decide) ?_ ?_
 ·simp;refineλb=>⟨b, .same _, .inl ?_,by simp[isNilRow],by simp[isNilRow]⟩
  simp;exact⟨.nilown 990, .nilown 991⟩
 ·rintro b -;have j:(Res.row (.slice none 0 0) eS 1 []:Res)= .row (.slice none 0 0) eS 1 (([]:List (List Rng)).map enc):=rfl;have k:(Res.row (.slice none 0 0) fO 1 []:Res)= .row (.slice none 0 0) fO 1 (([]:List U64).map enc):=rfl;rw[j,k];simp[h1,a, -List.map_nil,-fB',-eB'];simp[a,-fB',-eB'];intro w w';refine fE (X:=Unit) [] [] [990,991] [] (λ_=>True) (λ_=>[(2, .bptr 6 b 0)]) (λ_=>[(6, .box b [enc q.1.lvs, .v (.int .u64 q.2.first.val), .v (.int .u64 q.2.last.val),enc q.1.fol, .v (.bool q.2.nul)])]) [6] (λ_=>rfl) (by decide) ?_ ?_
  ·simp;exact .inl ⟨gp (l:=q.1.lvs) eS rfl,gp (l:=q.1.fol) fO rfl⟩
  ·rintro - -;simp;refine bF ⟨q.1.lvs,q.2.first,q.2.last,q.1.fol,q.2.nul⟩ ?_ c;exact .box rfl
def qiD(x:Tbk×U64×Bool):Prop:=x.1.fol.length<=100000
def qis(x:Tbk×U64×Bool)(y:U64):Prop:=y=BF x.1 x.2.1 x.2.2
noncomputable abbrev qe4:Spc:=aJ (a3 Tbk U64 Bool) qiD (enc (X:=U64)) qis
theorem qjj:aq gg fX S (a3 Tbk U64 Bool) qiD (enc (X:=U64)) qis:=by
 rintro⟨⟨lv,fi,la,fo,d⟩,set,a⟩ hlen;have hlen:fo.length<=100000:=hlen;have hl:(fo.length:Int)<=9223372036854775807:=by omega
 cases a
 ·simp[gg,fX,hl,-fB',-eB'];refine ah (X:=U64) [1,18] [] fo.length (λk m=>ql7 set k (fo.drop k) m=ql7 set 0 fo ⟨0⟩) (λm=>[(7,enc m)]) (λx=>[]) ⟨0⟩ (by simp) ?_ ?_
  ·rintro k m hk hm;obtain⟨f,b⟩:∃f,fo[k]? =some f:=⟨_,qCe hk⟩
   obtain⟨_,c⟩:=qCd.1 b;rw[qf0 b]at hm;simp[hk,b,c,-fB',-eB'];exact⟨λhb=>⟨qj9 m f,by simpa [hb]using hm,rfl⟩,λhb=>⟨m,by simpa [hb]using hm,rfl⟩⟩
  ·rintro m hm;rw[qC2,ql7]at hm;subst hm;simp[-fB',-eB'];exact bF _ (.same _) rfl
 ·simp[gg,fX,hl,-fB',-eB'];exact bF _ (.same _) rfl
end
section
open Cod (enc dec)
def Tt(l:List Rng)(c:Int):Bool:=l.any λr=>decide (r.fr.val<=c) && decide (c<=r.to.val)
def qpO(next:U64)(c:I32):Nat->List (List Rng)->U64->U64
 | _, [],m=>m
 |i,l::ls,m=>qpO next c (i+1) ls (if qdV next i && Tt l c.val then⟨qpJ .u64 m.val (RL .u64 1 i)⟩else m)
def qjv(next:U64)(lvs:List (List Rng)):List I32->U64->U64
 | [],m=>m
 |v::vs,m=>qjv next lvs vs (qpO next v 0 lvs m)
def qro(t:Tbk)(b:I32->List I32):List I32->U64->Bool->Bool
 | [],set,a=>(a && t.nul)||decide (XN .u64 set.val t.la.val≠0)
 |c::l,set,a=>if(qjv (BF t set a) t.lvs (b c) ⟨0⟩).val=0 then false else qro t b l (qjv (BF t set a) t.lvs (b c) ⟨0⟩) false
def low(c:Int):Int:=if 65<=c/\c<=90 then c+32 else c
def Nk(c:I32):List I32:=([⟨low c.val⟩,⟨low c.val -32⟩,⟨low c.val -80⟩]:List I32).filter λv=>decide (0<=v.val/\low v.val=low c.val)
def Yl(f:Bool)(c:I32):List I32:=if f=true then Nk c else[c]
def qlj(l:List UInt8):List I32:=l.map λc=>⟨(c.toNat:Int)⟩
def Ev(x:Rx)(s:B)(f:Bool):Option Bool:=if DR 50 x=true/\Ak s=true/\s.size<=1000 then(qjA 50 x).bind λt=>if Sw t=true then some (qro t (Yl f) (qlj s.data.toList) ⟨0⟩ true)else none else none
open Go.Proofs
def vm:CC:=gq Tryz.f213 [3] {} _
def un:List ak:=[.tmp 6]
def ME:FO rD [3] vm un 88:=fo
def vo:CC:=gq Tryz.f154 [2] {} _
def uq:List ak:=[.tmp 4]
def MG:FO wT [2] vo uq 8:=fo
def qS:CC:=gq Tryz.f215 [] {} _
def qh:List ak:=[.tmp 2]
def Ic:FO dF [] qS qh 5:=fo
def nf:CC:=gq Tryz.f153 [2] {} _
def mP:List ak:=[.tmp 4]
def Ea:FO pa [2] nf mP 8:=fo
def py:CC:=gq Tryz.f214 [] {} _
def nQ:List ak:=[.tmp 2]
def F8:FO df [] py nQ 43:=fo
variable {S S0:Nat->Spc}
def aMt:dN (Rx×B×Bool):=⟨λds=>match ds with
 | [a,b, .clo f []]=>if f=dF then(dec a).bind λx=>(dec b).map λs=>(x,s,false)else if f=df then(dec a).bind λx=>(dec b).map λs=>(x,s,true)else none
 | _=>none,λx=>[enc x.1,enc x.2.1, .clo (if x.2.2=true then df else dF) []],λds x h=>by
 split at h
 ·rename_i a b f;split at h
  ·rename_i e;simp only[qCc,qCn]at h;obtain⟨x,c,s,hs,rfl⟩:=h;subst e;exact .cons (Cod.le _ _ c) (.cons (Cod.le _ _ hs) (.cons (.same _) .nil))
  ·split at h
   ·rename_i e;simp only[qCc,qCn]at h;obtain⟨x,c,s,hs,rfl⟩:=h;subst e;exact .cons (Cod.le _ _ c) (.cons (Cod.le _ _ hs) (.cons (.same _) .nil))
   ·cases h
 ·cases h⟩
@[simp] theorem qsP(x:Rx)(s:B)(f:Bool):aMt.view (x,s,f)=[enc x,enc s, .clo (if f=true then df else dF) []]:=i' rfl
@[simp] theorem qsR(a b:D):aMt.dec [a,b, .clo dF []]=(dec a).bind λx=>(dec b).map λs=>(x,s,false):=i' rfl
@[simp] theorem qsQ(a b:D):aMt.dec [a,b, .clo df []]=(dec a).bind λx=>(dec b).map λs=>(x,s,true):=i' rfl
abbrev qcE:Spc:=aJ (a1 Rx) (λx=>DR 50 x=true) (enc (X:=Int)) λx y=>y=0
abbrev qe7:Spc:=aJ (a2 (List Rng) I32) (λ_=>True) (enc (X:=Bool)) λx y=>y=Tt x.1 x.2.val
abbrev s_cpVal:Spc:=aJ (a1 B) (λs=>Ak s=true/\s.size<=1000) (enc (X:=Bool)) λ_ y=>y=true
abbrev qlZ:Spc:=aJ (a1 I32) (λc=>0<=c.val/\c.val< 128) (enc (X:=List I32)) λc y=>y=Yl false c
abbrev qlW:Spc:=aJ (a1 I32) (λc=>0<=c.val/\c.val< 128) (enc (X:=List I32)) λc y=>y=Yl true c
def qlC(x:Rx×B×Bool):Prop:=∃y,Ev x.1 x.2.1 x.2.2=some y
def qpa(x:Rx×B×Bool)(y:Bool):Prop:=Ev x.1 x.2.1 x.2.2=some y
abbrev qe8:Spc:=aJ aMt qlC (enc (X:=Bool)) qpa
def QT{s:B}(h:Ak s=true){p:Nat}(hp:p<s.size):∃c:UInt8,s.data.toList[p]? =some c/\c.toNat< 128/\Utf8.decode s p=(c.toNat,1):=by
 have hl:p<s.data.toList.length:=by rw[qC3];exact hp
 refine⟨s.data.toList[p],qCe hl,?_,?_⟩
 ·have:=qCl.1 h _ (qDr hl);simpa using this
 ·have h1:(s[p]'hp).toNat< 128:=by
   have:=qCl.1 h _ (qDr hl);have h2:s.data[p].toNat< 128:=by simpa using this
   exact h2
  have:=Go.decode_ascii s p hp h1;rw[this];have:s[p]=s.data.toList[p]:=by
   rw[Array.getElem_toList];rfl
  rw[this]
set_option maxHeartbeats 2000000 in
theorem Oo(h1:S lw=qcE)(h2:S pu=s_cpVal)(h3:S BY=qlX 50)(h4:S lW=qe4)(h5:S qJ=qe7)(h6:S dF=qlZ)(h7:S df=qlW):
 aq vm un S aMt qlC (enc (X:=Bool)) qpa:=by
 rintro⟨x,s,f⟩ ⟨y,hy⟩;have hy0:Ev x s f=some y:=hy;unfold Ev at hy0;split at hy0
 rotate_left
 ·cases hy0
 rename_i hc;obtain⟨hv,ha,hsz⟩:=hc;obtain⟨t,ht,hy1⟩:=qCc.1 hy0;split at hy1
 rotate_left
 ·cases hy1
 rename_i hok;have hres:qro t (Yl f) (qlj s.data.toList) ⟨0⟩ true=y:=qCr hy1;obtain⟨hlv,hfo⟩:=yl (t:=t) (by rw[hok];simp);have hOf:qpc 50 x t:=ht;have hPOf:qlD 50 x:=by unfold qlD;rw[ht];rfl
 simp[vm,un,h1,h2,h3,hv,ha,hsz,hPOf,-fB',-eB'];intro t' ht' b;obtain rfl:t=t':=by
  have h:qjA 50 x=some t':=ht';rw[ht]at h;exact qCr h
 refine aA (X:=U64×Bool×Nat) [2,7,28] [] (λz=>qro t (Yl f) (qlj (s.data.toList.drop z.2.2)) z.1 z.2.1=y/\z.2.2<=s.size) (λz=>[(8,enc z.1),(9,enc z.2.1)]) (λz=>[(28, .iter b s z.2.2)]) (λz=>s.size -z.2.2) (⟨0⟩,true,0) ⟨by simpa using hres,qCC _⟩ ?_;rintro⟨set,beg,pos⟩ ⟨hm,hp⟩;simp only at hm hp;by_cases hlt:pos<s.size
 ·obtain⟨c,hc,hc128,hdec⟩:=QT ha hlt;rw[vg hc]at hm;have hm:(if(qjv (BF t set beg) t.lvs (Yl f ⟨(c.toNat:Int)⟩) ⟨0⟩).val=0 then false else qro t (Yl f) (qlj (s.data.toList.drop (pos+1))) (qjv (BF t set beg) t.lvs (Yl f ⟨(c.toNat:Int)⟩) ⟨0⟩) false)=y:=hm;have hN:qiD (t,set,beg):=by show t.fol.length<=100000;omega
  have hq:qis (t,set,beg) (BF t set beg):=rfl;have c0:(0:Int)<=(c.toNat:Int):=by omega
  have c1:(c.toNat:Int)< 128:=by omega
  have hvl:((Yl f ⟨(c.toNat:Int)⟩).length:Int)<=9223372036854775807:=by
   have:(Yl f ⟨(c.toNat:Int)⟩).length<=3:=by
    unfold Yl;split
    ·unfold Nk;exact qCU (List.length_filter_le _ _) (by simp)
    ·simp
   omega
  have h8:S (if f=true then df else dF)=aJ (a1 I32) (λc=>0<=c.val/\c.val< 128) (enc (X:=List I32)) λc y=>y=Yl f c:=by
   cases f
   ·exact h6
   ·exact h7
  simp[hlt,hdec,h4,hN,h8,c0,c1,hvl,-fB',-eB'];intro nx hnx;obtain rfl:nx=BF t set beg:=hnx;generalize BF t set beg=nx at hm;generalize Yl f ⟨(c.toNat:Int)⟩=vs at hm hvl;refine ah (X:=U64) [2,7,9,12,28,38] [28] vs.length (λk m=>qjv nx t.lvs (vs.drop k) m=qjv nx t.lvs vs ⟨0⟩) (λm=>[(8,enc m)]) (λ_=>[]) ⟨0⟩ (by simp) ?_ ?_
  ·rintro k m hk hm2;obtain⟨v,hvk⟩:=TE hk;obtain⟨_,hgv⟩:=qCd.1 hvk;rw[vg hvk,qjv]at hm2;have hlv':(t.lvs.length:Int)<=9223372036854775807:=by omega
   simp[hk,hvk,hgv,hlv',-fB',-eB'];refine ah (X:=U64) [2,7,9,12,14,28,38,39,40,47] [28] t.lvs.length (λk m'=>qpO nx v k (t.lvs.drop k) m'=qpO nx v 0 t.lvs m) (λm=>[(8,enc m)]) (λ_=>[]) m (by simp) ?_ ?_
   ·rintro j m' hj hm3;obtain⟨lf,hlf⟩:=TE hj;obtain⟨_,hgl⟩:=qCd.1 hlf;rw[vg hlf,qpO]at hm3;simp[hj,hlf,hgl,h5,-fB',-eB'];refine⟨λhb=>⟨λhc=>⟨_,by rw[if_pos (by simp[hb,hc])]at hm3;exact hm3,rfl⟩,λhc=>⟨m',by rw[if_neg (by simp[hc])]at hm3;exact hm3,rfl⟩⟩,λhb=>⟨m',by rw[if_neg (by simp[hb])]at hm3;exact hm3,rfl⟩⟩
   ·rintro m' hm3;rw[qC2,qpO]at hm3;subst hm3;simp[-fB',-eB'];exact⟨_,hm2,rfl⟩
  ·rintro m hm2;rw[qC2,qjv]at hm2;subst hm2;simp[-fB',-eB'];refine⟨λh0=>?_,λh0=>?_⟩
   ·rw[if_pos h0]at hm;subst hm;exact hy
   ·rw[if_neg h0]at hm;exact⟨_,false,pos+1,⟨hm,by omega⟩,⟨⟨rfl,rfl⟩, .inl rfl⟩,by omega⟩
 ·have hpe:pos=s.size:=by omega
  subst hpe;rw[qDl (by rw[qC3];exact qCj _)]at hm;have hm:((beg && t.nul)||decide (XN .u64 set.val t.la.val≠0))=y:=hm;simp[-fB',-eB'];have hQ:∀w,w=y->qpa (x,s,f) w:=λw e=>by subst e;exact hy
  refine⟨λhb=>⟨λhn=>hQ _ ?_,λhn=>hQ _ ?_⟩,λhb=>hQ _ ?_⟩
  all_goals
   subst hb
   first|subst hn|skip
   rw[<-hm];simp[*]
def J1:aq qS qh S (a1 I32) (λc=>0<=c.val/\c.val< 128) (enc (X:=List I32)) λc y=>y=Yl false c:=by
 rintro⟨c⟩ ⟨a,c1⟩;simp[qS,qh,-fB',-eB'];exact bF [⟨c⟩] (by simp) rfl
def XY(f:Bool)(x:Rx×B):Prop:=∃y,Ev x.1 x.2 f=some y
def qit(f:Bool)(x:Rx×B)(y:Bool):Prop:=Ev x.1 x.2 f=some y
abbrev qaC(f:Bool):Spc:=aJ (a2 Rx B) (XY f) (enc (X:=Bool)) (qit f)
def Ou(h1:S rD=qe8):aq vo uq S (a2 Rx B) (XY false) (enc (X:=Bool)) (qit false):=by
 rintro⟨x,s⟩ hp;have a:qlC (x,s,false):=hp;simp[vo,uq,h1,a,-fB',-eB'];exactλy b=>b
def Ff(h1:S rD=qe8):aq nf mP S (a2 Rx B) (XY true) (enc (X:=Bool)) (qit true):=by
 rintro⟨x,s⟩ hp;have a:qlC (x,s,true):=hp;simp[nf,mP,h1,a,-fB',-eB'];exactλy b=>b
def lr(c:Int):B:=⟨#[c.toNat.toUInt8]⟩
abbrev s_cpFold1:Spc:=aJ (a1 B) (λs=>∃c:Int,0<=c/\c< 128/\s=lr c) (enc (X:=B)) λs y=>∀c:Int,0<=c->c< 128->s=lr c->y=lr (low c)
def Tl{c:Int}(h0:0<=c)(h1:c< 128):Utf8.encode c=lr c:=by
 unfold Utf8.encode lr;have e:c.toNat< 128:=by omega
 have h:Utf8.valid c=true:=by
  unfold Utf8.valid;have:c< 55296:=by omega
  simp[h0,this]
 simp[e,h]
def SE{c:Int}(h0:0<=c)(h1:c< 128):0<=low c/\low c< 128:=by unfold low;split<;>omega
def qaQ{c d:Int}(hc:0<=c)(a:c< 128)(k:0<=d)(j:d< 128)(h:lr c=lr d):c=d:=by
 have:c.toNat.toUInt8=d.toNat.toUInt8:=by
  have:=congrArg (λb:B=>b.data.toList.head?) h;simpa [lr]using this
 have:=congrArg UInt8.toNat this;have l:c.toNat.toUInt8.toNat=c.toNat % 256:=qDL ..;have p:d.toNat.toUInt8.toNat=d.toNat % 256:=qDL ..;omega
def qnN{c d:Int}(hc:0<=c)(a:c< 128)(j:0<=d)(b:d< 128):(lr c=lr d)=(c=d):=propext ⟨qaQ hc a j b,λh=>by rw[h]⟩
theorem X9(h1:S qP=s_cpFold1):aq py nQ S (a1 I32) (λc=>0<=c.val/\c.val< 128) (enc (X:=List I32)) λc y=>y=Yl true c:=by
 rintro⟨c⟩ ⟨q,c1⟩;have q:0<=c:=q;have c1:c< 128:=c1;obtain⟨I,J⟩:=SE q c1;have L:∃d:Int,0<=d/\d< 128/\lr c=lr d:=⟨c,q,c1,rfl⟩
 simp[py,nQ,h1,Tl q c1,L,-fB',-eB'];intro y w b;obtain rfl:=w c q c1 rfl;clear w;obtain⟨r,K⟩:∃r,r=low c:=⟨_,rfl⟩
 rw[<-K]at I J ⊢;have j:(lr r).size=1:=rfl;have s:Utf8.decode (lr r) 0=(r.toNat,1):=by
  have h0:0<(lr r).size:=by rw[j];omega
  have W:((lr r)[0]'h0).toNat=r.toNat % 256:=qDL ..;have M:((lr r)[0]'h0).toNat=r.toNat:=by omega
  rw[Go.decode_ascii (lr r) 0 h0 (by omega),M]
 refine aA (X:=Nat×Value×List I32) [4,13] [] (λz=>z.1=0/\z.2.1= .slice none 0 0/\z.2.2=[]\/z.1=1/\z.2.2=Nk ⟨c⟩) (λz=>[(3, .own 40 z.2.1)]) (λz=>[(13, .iter b (lr r) z.1),(40, .row z.2.1 LR 1 (z.2.2.map enc))]) (λz=>1 -z.1) (0, .slice none 0 0, []) (.inl ⟨rfl,rfl,rfl⟩) ?_ (hh:=by simp[isNilRow]);rintro⟨pos,v,l⟩ hz;simp only at hz;rcases hz with⟨rfl,rfl,rfl⟩|⟨rfl,rfl⟩
 ·have x:((r.toNat:Nat):Int)=r:=by omega
  have N:InR .i32 (r -32):=by simp only[InR];omega
  have O:InR .i32 (r -80):=by simp only[InR];omega
  simp[j,s,x,N,O,-fB',-eB'];have A:∀l:List I32,l=([⟨r⟩,⟨r -32⟩,⟨r -80⟩]:List I32).filter (λv=>decide (0<=v.val/\low v.val=r))->l=Nk ⟨c⟩:=λl hl=>by
   rw[hl,Nk];simp only[<-K]
  refine ah (X:=Value×List I32) [4,13,22] [13] 3 (λk z=>z.2=(([⟨r⟩,⟨r -32⟩,⟨r -80⟩]:List I32).take k).filter (λv=>decide (0<=v.val/\low v.val=r))/\z.2.length<=k) (λz=>[(3, .own 40 z.1)]) (λz=>[(40, .row z.1 LR 1 (z.2.map enc))]) (.slice none 0 0, []) ⟨rfl,by simp⟩ ?_ ?_ (hh:=by simp[isNilRow])
  ·rintro k ⟨v,l⟩ hk ⟨hl,hlen⟩;simp only at hl hlen;obtain⟨e,he,C⟩:∃e:Int,e< 128/\([⟨r⟩,⟨r -32⟩,⟨r -80⟩]:List I32)[k]? =some ⟨e⟩/\([.v (.int .i32 r), .v (.int .i32 (r -32)), .v (.int .i32 (r -80))]:List D)[k]? =some (.v (.int .i32 e)):=by
    rcases(by omega:k=0\/k=1\/k=2)with rfl|rfl|rfl
    ·exact⟨r,by omega,rfl,rfl⟩
    ·exact⟨r -32,by omega,rfl,rfl⟩
    ·exact⟨r -80,by omega,rfl,rfl⟩
   obtain⟨E,p⟩:=C;have t:∀h,([.v (.int .i32 r), .v (.int .i32 (r -32)), .v (.int .i32 (r -80))]:List D)[k]'h= .v (.int .i32 e):=λh=>by
    obtain⟨_,h2⟩:=qCd.1 p;exact h2
   have u:(k:Int)< 3:=by omega
   have a:(([⟨r⟩,⟨r -32⟩,⟨r -80⟩]:List I32).take (k+1)).filter (λv=>decide (0<=v.val/\low v.val=r))=l++ ([⟨e⟩]:List I32).filter (λv=>decide (0<=v.val/\low v.val=r)):=by
    rw[qDg,E,qD1,<-hl];rfl
   by_cases h0:0<=e
   ·obtain⟨Q,U⟩:=SE h0 he;have F:∃d:Int,0<=d/\d< 128/\lr e=lr d:=⟨e,h0,he,rfl⟩
    simp[hk,u,p,t,h0,h1,Tl h0 he,F,-fB',-eB'];intro y w;obtain rfl:=w e h0 he rfl;rw[qnN Q U I J];refine⟨λhh=>⟨by omega,by omega,λv=>⟨v,l++ [⟨e⟩],⟨?_,by simp;omega⟩,rfl, .inl ⟨rfl,by simp⟩⟩⟩,λhh=>⟨v,l,⟨?_,by omega⟩,rfl, .inl ⟨rfl,rfl⟩⟩⟩
    ·simpa [h0,hh]using a.symm
    ·simpa [h0,hh]using a.symm
   ·simp[hk,u,p,t,h0,-fB',-eB'];refine⟨v,l,⟨?_,by omega⟩,rfl, .inl ⟨rfl,rfl⟩⟩;simpa [h0]using a.symm
  ·rintro⟨v,l⟩ ⟨hl,hlen⟩;simp only at hl hlen;have hl:=A l hl;simp[-fB',-eB'];exact⟨1,v,l, .inr ⟨rfl,hl⟩,⟨rfl, .inl rfl, .inl ⟨rfl,rfl⟩⟩,rfl⟩
 ·simp[j,-fB',-eB'];exact bF (Nk ⟨c⟩) (gp (l:=Nk ⟨c⟩) LR rfl) rfl
end
section
open Go.Proofs
def eD:CC:=gq Tryz.f157 [] {} _
def ej:List ak:=[.tmp 4]
def rT:FO eT [] eD ej 19:=fo
def fh:CC:=gq Tryz.f100 [] {} _
def fe:List ak:=[.tmp 4]
def jP:FO bC [] fh fe 9:=fo
def gA:CC:=gq Tryz.f162 [] {} _
def gj:List ak:=[.tmp 4]
def mA:FO eM [] gA gj 19:=fo
def eF:CC:=gq Tryz.f159 [] {} _
def eo:List ak:=[.tmp 4]
def il:FO bM [] eF eo 9:=fo
def fB:CC:=gq Tryz.f216 [] {} _
def fl:List ak:=[.tmp 4]
def kF:FO dG [] fB fl 19:=fo
def hU:CC:=gq Tryz.f161 [3] {} _
def gM:List ak:=[.tmp 4]
def yg:FO iE [3] hU gM 9:=fo
def kS:CC:=gq Tryz.f217 [3] {} _
def kj:List ak:=[.tmp 4]
def Bo:FO lT [3] kS kj 19:=fo
def iJ:CC:=gq Tryz.f98 [] {} _
def iq:List ak:=[.tmp 4]
def zi:FO cO [] iJ iq 19:=fo
def cE:CC:=gq Tryz.f111 [] {} _
def cD:List ak:=[.tmp 4]
def lE:FO aU [] cE cD 9:=fo
def lc:CC:=gq Tryz.f87 [3] {} _
def kC:List ak:=[.tmp 6, .tmp 7]
def BB:FO cH [3] lc kC 40:=fo
def nl:CC:=oX [oB 1 (.box eI true (oT 0)),oB 2 (.mv (.const ob))] [1] [] (oX [oD 6 7 1,oZ 7 cH [oT 6,oN 0,oN 1],oA 5 7,oB 8 (.ext (oT 5) 0),oB 9 (.ext (oT 5) 1),oA 3 8,oA 4 9] [3] [] (oX [oA 10 3,oB 11 (.cmp .gtr (oT 10) (oN 60)),oA 2 11] [2] [] (.ret)))
def mV:List ak:=[.tmp 2]
def pV:CC:=gq Tryz.f89 [2] {} _
def ou:List ak:=[.tmp 4]
def Gr:FO gY [2] pV ou 29:=fo
def bw:CC:=gq Tryz.f147 [1,2034005,2033005,2043005,2042005,2041005,2052005,2051005,2050005] {} _
def bu:List ak:=[.tmp 2]
def Ei:FO pn [1,2034005,2033005,2043005,2042005,2041005,2052005,2051005,2050005] bw bu 108:=fo
def iR:CC:=gq Tryz.f97 [3] {} _
def iA:List ak:=[.tmp 4]
def zr:FO bQ [3] iR iA 8:=fo
def gC:CC:=gq Tryz.f158 [2] {} _
def gm:List ak:=[.tmp 3]
def wP:FO bX [2] gC gm 8:=fo
def iQ:CC:=gq Tryz.f95 [] {} _
def iz:List ak:=[.tmp 4]
def En:FO jV [] iQ iz 14:=fo
def cn:CC:=gq Tryz.f148 [2] {} _
def ca:List ak:=[.tmp 4]
def Ej:FO pp [2] cn ca 50:=fo
def da:CC:=gq Tryz.f91 [3] {} _
def cZ:List ak:=[.tmp 6]
def Eo:FO pq [3] da cZ 59:=fo
def jE:CC:=gq Tryz.f34 [5,4,3] {} _
def js:List ak:=[.tmp 6]
def AR:FO eC [5,4,3] jE js 23:=fo
def ig:CC:=gq Tryz.f90 [3] {} _
def gS:List ak:=[.tmp 4]
def yk:FO cA [3] ig gS 9:=fo
def jW:CC:=oX [oB 1 (.box eI true (oT 0)),oB 2 (.mv (.const ob))] [1] [] (oX [oE 3 0 1,oC 4 1 3,oB 5 (.eql false false [.int] (oT 4) (oN 4)),oA 6 5,oI 7 6 (.faddr 6 (oT 1)),oI 8 6 (.load false 1 (oT 7)),oI 9 6 (.call bC [oT 8,.func bD]),oB 10 (.pick (oT 6) (.const (.bool true)) (oT 9)),oA 2 10] [2] [] (.ret))
def jN:List ak:=[.tmp 2]
def ea:CC:=oX [oB 1 (.box eI true (oT 0)),oB 2 (.alloc eI [oi,oe,oe,oe,oe,ob,on])] [1,2] [2,33] (.seq (oX [oE 6 0 1,oC 7 1 6,oB 8 (.eql false false [.int] (oT 7) (oN 4)),oA 9 8,oI 10 9 (.faddr 0 (oT 1)),oI 11 9 (.load false 1 (oT 10)),oI 12 9 (.eql false false [.int] (oT 11) (oN 6)),oI 13 9 (.mv (oT 12)),oH 14 13 (.load true 7 (oT 1)),
 oH 15 13 (.call bD [oT 14]),oI 16 9 (.pick (oT 13) (oT 15) (.const ob)),oB 17 (.pick (oT 9) (.const (.bool true)) (oT 16))] [1,2,17] [2,33] (.ite (oT 17) (oX [oB 18 (.build [oi,oe,oe,oe,oe,ob,on] [(0,1,oN 1)]),oF 7 2 18] [2] [2,33] (.ret)) (.skip))) (.keep [1,2] [2,33] (oX [oD 19 7 1,oB 3 (.alloc eI [oi,oe,oe,oe,oe,ob,on]),oF 7 3 19] [1,2,3] [2,3,33] (OU 5 (.reg [
 oE 20 6 3,.op none none (.store none 1 (oT 20) (.const on))]) (.keep [1,2,3] [2,3,33] (.seq (oX [oE 21 6 1,oC 22 1 21,oB 23 (.len (oT 22)),oB 24 (.mv (oN 0))] [2,3,22,23,24] [2,3,33] (gH 0 24 23 25 1 (oX [oB 26 (.iaddr 7 (oT 22) (oT 24)),oD 27 7 26,oB 5 (.alloc eI [oi,oe,oe,oe,oe,ob,on]),oF 7 5 27] [2,3,5,22,23,24] [2,3,5,33] (.regd [oE 28 6 3,oC 29 1 28,oD 30 7 5,
 oZ 31 dC [oT 30],oB 32 (.bslice eI 7 [oT 31])] [oB 33 (.append (some 33) eI 7 104 (oT 29) (oT 32)),oE 34 6 3,.op none none (.store (some 3) 1 (oT 34) (oT 33))])) 35)) (.keep [2,3] [2,3,33] (oX [oD 36 7 3,oF 7 2 36] [2] [2,33] (.ret)))))))))
def dT:List ak:=[.cell 2 true 7]
def cp:CC:=gq Tryz.f94 [3] {} _
def cb:List ak:=[.tmp 6]
def Ep:FO pr [3] cp cb 38:=fo
def mi:CC:=gq Tryz.f99 [5,4,3] {} _
def lP:List ak:=[.tmp 6]
def C1:FO na [5,4,3] mi lP 11:=fo
def bT:CC:=gq Tryz.f160 [3] {} _
def bP:List ak:=[.tmp 4]
def AQ:FO ck [3] bT bP 37:=fo
def El:FO jU [1] nl mV 12:=fo
def Gs:FO bD [1] jW jN 11:=fo
def Ek:FO dC [1,2034003,1033033] ea dT 37:=fo
open Cod (enc dec)
variable {S S0:Nat->Spc}
def FunOn{X Y:Type}[Cod X][Cod Y](S:Nat->Spc)(d:D)(l:List X)(p:X->Y):Prop:=
 ∃g caps a,d= .clo g caps/\S g= .pure a/\∀x∈l,a.pre (enc x::caps)/\∀r,a.post (enc x::caps) r->r=enc (p x)
def FunOn.useB{X:Type}[Cod X]{S:Nat->Spc}{d:D}{l:List X}{p:X->Bool}(h:FunOn S d l p){x:X}(a:x∈l){k:Nat}{H:ab}{K:D->ab->Prop}(hk:∀y:Bool,(∀q:X->Bool,FunOn S d l q->y=q x)->K (.v (.bool y)) H):Cb S d k [enc x] H K:=by
 obtain⟨g,caps,A,rfl,h1,h2⟩:=h;simp only[Cb,h1,Spc.pt];refine⟨(h2 x a).1,λr c=>?_⟩;have e:=(h2 x a).2 r c;rw[e];refine hk (p x) λq s=>?_
 obtain⟨C,b,t,u,j,w⟩:=s;cases u;rw[h1]at j;cases j;exact bi (e.symm.trans ((w x a).2 r c))
def uc{X Y Z:Type}[Cod X][Cod Y]{S:Nat->Spc}{g:Nat}{caps:List D}{A:dN Z}{pre:Z->Prop}{post:Z->Y->Prop}{l:List X}{p:X->Y}{f:X->Z}(h:S g=aJ A pre enc post)(b:∀x∈l,A.dec (enc x::caps)=some (f x))(hp:∀x∈l,pre (f x))(c:∀x∈l,∀y,post (f x) y->y=p x):FunOn S (.clo g caps) l p:=by
 refine⟨g,caps,_,rfl,h,λx a=>⟨⟨f x,b x a,hp x a⟩,λr d=>?_⟩⟩;obtain⟨y,h1,h2⟩:=d (f x) (b x a) (hp x a);rw[h1,c x a y h2]
def ZV{X:Type}[Cod X](S0:Nat->Spc)(x:List X×D×Unit):Prop:=∃p:X->Bool,FunOn S0 x.2.1 x.1 p
def qlB{X:Type}[Cod X](S0:Nat->Spc)(x:List X×D×Unit)(y:Int):Prop:=∀p:X->Bool,FunOn S0 x.2.1 x.1 p->y=ij x.1 p
def qpd{X:Type}[Cod X](S0:Nat->Spc)(x:List X×D×Unit)(y:Bool):Prop:=∀p:X->Bool,FunOn S0 x.2.1 x.1 p->y=x.1.any p
abbrev VB(X:Type)[Cod X](S0:Nat->Spc):Spc:=aJ (aE (List X) (aD a0)) (ZV S0) (enc (X:=Int)) (qlB S0)
abbrev VC(X:Type)[Cod X](S0:Nat->Spc):Spc:=aJ (aE (List X) (aD a0)) (ZV S0) (enc (X:=Bool)) (qpd S0)
theorem LL:aq eD ej S (aE (List Attr) (aD a0)) (ZV S) (enc (X:=Int)) (qlB S):=by
 rintro⟨l,d,⟨⟩⟩ ⟨p,hp⟩;simp only at hp;simp[eD,ej,-fB',-eB'];intro _;refine ah (X:=Unit) [0,1] [] l.length (λk _=>∀p:Attr->Bool,FunOn S d l p->∀x∈l.take k,p x=false) (λ_=>[]) (λ_=>[]) () (by simp) ?_ ?_
 ·intro k _ hk j;obtain⟨x,c⟩:∃x,l[k]? =some x:=⟨_,qCe hk⟩
  obtain⟨_,q⟩:=qCd.1 c;simp[hk,c,q,-fB',-eB'];refine hp.useB (x:=x) (qCg c) λy r=>?_
  simp[-fB',-eB'];refine⟨λh=>?_,λh b a=>?_⟩
  ·intro b a;exact(vZ c (by rw[<-r b a,h]) (j b a)).symm
  ·rw[aB c];intro z hz;rcases qCk.1 hz with hz|hz
   ·exact j b a z hz
   ·simp at hz;subst hz;rw[<-r b a,h]
 ·intro _ j;simp[-fB',-eB'];intro b a;exact(nE (by simpa using j b a)).symm
theorem PA:aq gA gj S (aE (List Cond) (aD a0)) (ZV S) (enc (X:=Int)) (qlB S):=by
 rintro⟨l,d,⟨⟩⟩ ⟨p,hp⟩;simp only at hp;simp[gA,gj,-fB',-eB'];intro _;refine ah (X:=Unit) [0,1] [] l.length (λk _=>∀p:Cond->Bool,FunOn S d l p->∀x∈l.take k,p x=false) (λ_=>[]) (λ_=>[]) () (by simp) ?_ ?_
 ·intro k _ hk j;obtain⟨x,c⟩:∃x,l[k]? =some x:=⟨_,qCe hk⟩
  obtain⟨_,q⟩:=qCd.1 c;simp[hk,c,q,-fB',-eB'];have e:D.agg [.v (.int .i64 x.op), .v (.string x.name), .v (.string x.arg), .v (.string x.val), .v (.string x.lab), .v (.bool x.fold), .list 7 (x.kids.map enc)]=enc x:=by simp
  rw[e];refine hp.useB (x:=x) (qCg c) λy r=>?_
  simp[-fB',-eB'];refine⟨λh=>?_,λh b a=>?_⟩
  ·intro b a;exact(vZ c (by rw[<-r b a,h]) (j b a)).symm
  ·rw[aB c];intro z hz;rcases qCk.1 hz with hz|hz
   ·exact j b a z hz
   ·simp at hz;subst hz;rw[<-r b a,h]
 ·intro _ j;simp[-fB',-eB'];intro b a;exact(nE (by simpa using j b a)).symm
def PB(h1:S eM=VB Cond S0):aq fh fe S (aE (List Cond) (aD a0)) (ZV S0) (enc (X:=Bool)) (qpd S0):=by
 rintro⟨l,d,⟨⟩⟩ hp;simp[fh,fe,h1,-fB',-eB'];refine⟨hp,λy c b a=>?_⟩;rw[c b a];exact vY b l
theorem Jr:aq fB fl S (aE (List Region) (aD a0)) (ZV S) (enc (X:=Int)) (qlB S):=by
 rintro⟨l,d,⟨⟩⟩ ⟨p,hp⟩;simp only at hp;simp[fB,fl,-fB',-eB'];intro _;refine ah (X:=Unit) [0,1] [] l.length (λk _=>∀p:Region->Bool,FunOn S d l p->∀x∈l.take k,p x=false) (λ_=>[]) (λ_=>[]) () (by simp) ?_ ?_
 ·intro k _ hk j;obtain⟨x,c⟩:∃x,l[k]? =some x:=⟨_,qCe hk⟩
  obtain⟨_,q⟩:=qCd.1 c;simp[hk,c,q,-fB',-eB'];refine hp.useB (x:=x) (qCg c) λy r=>?_
  simp[-fB',-eB'];refine⟨λh=>?_,λh b a=>?_⟩
  ·intro b a;exact(vZ c (by rw[<-r b a,h]) (j b a)).symm
  ·rw[aB c];intro z hz;rcases qCk.1 hz with hz|hz
   ·exact j b a z hz
   ·simp at hz;subst hz;rw[<-r b a,h]
 ·intro _ j;simp[-fB',-eB'];intro b a;exact(nE (by simpa using j b a)).symm
def Js(h1:S dG=VB Region S0):aq eF eo S (aE (List Region) (aD a0)) (ZV S0) (enc (X:=Bool)) (qpd S0):=by
 rintro⟨l,d,⟨⟩⟩ hp;simp[eF,eo,h1,-fB',-eB'];refine⟨hp,λy c b a=>?_⟩;rw[c b a];exact vY b l
end
section
instance:Inhabited Cond:=⟨⟨0,⟨#[]⟩,⟨#[]⟩,⟨#[]⟩,⟨#[]⟩,false, []⟩⟩
instance:Inhabited Pat:=⟨⟨0,default,⟨#[]⟩,⟨#[]⟩,0,0, []⟩⟩
def qd:Cond:=⟨0,⟨#[]⟩,⟨#[]⟩,⟨#[]⟩,⟨#[]⟩,false, []⟩
mutual
def cM:Pat->Nat| .mk _ _ _ _ _ _ ks=>JI ks+1
def JI:List Pat->Nat|[]=>0|k::ks=>max (cM k) (JI ks)
end
mutual
def dE:Cond->Nat| .mk _ _ _ _ _ _ ks=>li ks+1
def li:List Cond->Nat|[]=>0|k::ks=>max (dE k) (li ks)
end
mutual
def ff:Pat->Nat| .mk _ _ _ _ _ _ ks=>bK ks+1
def bK:List Pat->Nat|[]=>0|k::ks=>ff k+bK ks
end
theorem Lf(p:Pat):cM p=JI p.kids+1:=by cases p;rfl
theorem Hl(p:Cond):dE p=li p.kids+1:=by cases p;rfl
theorem dv(p:Pat):ff p=bK p.kids+1:=by cases p;rfl
def P9{k:Pat} :∀{ks:List Pat},k∈ks->cM k<=JI ks
 | a::ks,h=>by
   rw[JI];rcases qCm.1 h with rfl|h;omega
   ·have:=P9 h;omega
def Jl{k:Cond} :∀{ks:List Cond},k∈ks->dE k<=li ks
 | a::ks,h=>by
   rw[li];rcases qCm.1 h with rfl|h;omega
   ·have:=Jl h;omega
theorem fq{p k:Pat}(h:k∈p.kids):cM k<cM p:=by have:=P9 h;grind [Lf]
def NV{p k:Cond}(h:k∈p.kids):dE k<dE p:=by have:=Jl h;grind [Hl]
def eb{C:Pat->Prop}(h:∀p,(∀k∈p.kids,C k)->C p)(p:Pat):C p:=by
 generalize hn:cM p=n
 induction n using Nat.strongRecOn generalizing p with
 | _ n a=>exact h p λk hk=>a (cM k) (by grind [fq]) k rfl
mutual
def cm(f:Pat->Bool):Pat->Bool| .mk op c l r mn mx ks=>f ⟨op,c,l,r,mn,mx,ks⟩ && Lo f ks
def Lo(f:Pat->Bool):List Pat->Bool|[]=>true|k::ks=>cm f k && Lo f ks
end
def Nv(f:Pat->Bool):∀ks:List Pat,Lo f ks=ks.all (cm f)
 | []=>by rfl
 |k::ks=>by rw[Lo,Nv f ks,qDW]
def cP(f:Pat->Bool)(p:Pat):cm f p=(f p && p.kids.all (cm f)):=by cases p;rw[cm,Nv]
mutual
def bZ:Pat->Int->Bool| .mk _ _ _ _ _ _ ks,d=>decide (d<=100) && Cq ks (d+1)
def Cq:List Pat->Int->Bool|[],_=>true|k::ks,d=>bZ k d && Cq ks d
end
def FP(d:Int):∀ks:List Pat,Cq ks d=ks.all (bZ · d)
 | []=>by rfl
 |k::ks=>by rw[Cq,FP d ks,qDW]
def ki(p:Pat)(d:Int):bZ p d=(decide (d<=100) && p.kids.all (bZ · (d+1))):=by cases p;rw[bZ,FP]
def RM(p:Pat):∀d a:Int,a<=d->bZ p d=true->bZ p a=true:=by
 induction p using eb with|_ p b=>?_
 intro d a h;rw[ki,ki];grind
def vK(p:Pat):Prop:=(p.op=1/\p.reg=⟨#[]⟩/\p.mn=0/\p.mx=0/\p.kids=[])\/
 ((p.op=2\/p.op=3)/\p.cond=qd/\p.lab=⟨#[]⟩/\p.mn=0/\p.mx=0/\p.kids=[])\/
 ((p.op=4\/p.op=5)/\p.cond=qd/\p.lab=⟨#[]⟩/\p.reg=⟨#[]⟩/\p.mn=0/\p.mx=0/\2<=p.kids.length)\/
 (p.op=6/\p.cond=qd/\p.lab=⟨#[]⟩/\p.reg=⟨#[]⟩/\p.kids.length=1)
noncomputable def oL(p:Pat):Bool:= @decide (vK p) (Classical.propDecidable _)
def tY(p:Pat):oL p=true↔vK p:= @decide_eq_true_iff (vK p) (Classical.propDecidable _)
def nL(p:Pat):Bool:=decide (p.op=6->0<=p.mn/\p.mn<=16/\(p.mx= -1\/p.mn<=p.mx/\p.mx<=16))
def nD(v:B->Bool)(p:Pat):Bool:=decide (((p.op=2\/p.op=3)->v p.reg=true)/\(p.lab≠ ⟨#[]⟩->v p.lab=true))
noncomputable def fJ(v:B->Bool)(p:Pat):Bool:=bZ p 1 && cm oL p && cm (nD v) p && cm nL p
theorem eW{v:B->Bool}{p k:Pat}(h:fJ v p=true)(hk:k∈p.kids):fJ v k=true:=by
 unfold fJ at*;rw[cP,cP,cP nL,ki]at h;simp only[qCi,qCl]at h;obtain⟨⟨⟨⟨_,h1⟩,_,h2⟩,_,h3⟩,_,h4⟩:=h;rw[h2 k hk,h3 k hk,h4 k hk,RM k _ 1 (by omega) (h1 k hk)];rfl
def eJ{v:B->Bool}{p:Pat}(h:fJ v p=true):oL p=true/\nD v p=true/\nL p=true:=by
 unfold fJ at*;rw[cP,cP,cP nL]at h;grind
def FN(p:Pat)(n:Int):Int:=if p.kids=[]then 1 else if p.op=6 then(if p.mx= -1 then min (n* (p.mn+1)) 1000 else if p.mx=0 then n else min (n*p.mx) 1000)else n
mutual
def kg:Pat->Int| .mk op c l r mn mx ks=>FN ⟨op,c,l,r,mn,mx,ks⟩ (fH ks 0)
def fH:List Pat->Int->Int|[],n=>n|k::ks,n=>fH ks (min (n+kg k) 1000)
end
def uj(p:Pat):kg p=FN p (fH p.kids 0):=by cases p;rfl
def YI(a b:List Pat)(n:Int):fH (a++b) n=fH b (fH a n):=by
 induction a generalizing n<;>grind [fH]
def Lv(seq:Bool)(a b:Int×Int):Int×Int:=
 if seq then(min (a.1+b.1) 10000,if a.2= -1\/b.2= -1 then -1 else min (a.2+b.2) 10000)else(min a.1 b.1,if a.2= -1\/b.2= -1 then -1 else max a.2 b.2)
mutual
def bG:Pat->Int×Int
 | .mk op _ _ _ mn mx ks=>if op=1 then(1,1)else if op=2\/op=3 then(0,0)else match ks with
   | []=>(0,0)
   |k::ks=>if op=6 then(min ((bG k).1*mn) 10000,if mx=0\/(bG k).2=0 then 0 else if mx= -1\/(bG k).2= -1 then -1 else min ((bG k).2*mx) 10000)else jZ (decide (op=4)) ks (bG k)
def jZ(seq:Bool):List Pat->Int×Int->Int×Int|[],w=>w|k::ks,w=>jZ seq ks (Lv seq w (bG k))
end
def qca(s:Bool)(a b:List Pat)(n:Int×Int):jZ s (a++b) n=jZ s b (jZ s a n):=by
 induction a generalizing n<;>grind [jZ]
theorem Z0{p:Pat}(h:p.op=1):bG p=(1,1):=by cases p;simp only at h;unfold bG;grind
theorem qeg{p:Pat}(h:p.op=2\/p.op=3):bG p=(0,0):=by cases p;simp only at h;unfold bG;grind
def qee{p k:Pat}(h:p.op=6){ks:List Pat}(hk:p.kids=k::ks):bG p=(min ((bG k).1*p.mn) 10000,if p.mx=0\/(bG k).2=0 then 0 else if p.mx= -1\/(bG k).2= -1 then -1 else min ((bG k).2*p.mx) 10000):=by
 cases p;simp_all [bG]
def qef{p k:Pat}(h:p.op=4\/p.op=5){ks:List Pat}(hk:p.kids=k::ks):bG p=jZ (decide (p.op=4)) ks (bG k):=by
 cases p;simp only at h hk;subst hk;rw[bG,if_neg (by omega),if_neg (by omega)];grind
mutual
def am:Pat->List Pat| .mk op c l r mn mx ks=>if op=1 then[⟨op,c,l,r,mn,mx,ks⟩]else GJ ks
def GJ:List Pat->List Pat|[]=>[]|k::ks=>am k++GJ ks
end
def JO:∀ks:List Pat,GJ ks=ks.flatMap am
 | []=>by rfl
 |k::ks=>by rw[GJ,JO ks,qC9]
theorem aQ(p:Pat):am p=if p.op=1 then[p]else p.kids.flatMap am:=by cases p;rw[am,JO]
def uM(p:Pat):(am p).length<=ff p:=by
 induction p using eb with|_ p a=>?_
 rw[aQ,dv];split
 ·simp
 ·have:∀ks:List Pat,(∀k∈ks,(am k).length<=ff k)->(ks.flatMap am).length<=bK ks:=by
   intro ks
   induction ks with
   |nil=>simp
   | cons k ks a=>
     grind [bK]
  grind
def qF{p:Pat}(h:oL p=true):(p.op=1/\p.kids=[])\/((p.op=2\/p.op=3)/\p.kids=[])\/((p.op=4\/p.op=5)/\∃k ks,p.kids=k::ks)\/(p.op=6/\∃k,p.kids=[k]):=by
 rw[tY]at h;unfold vK at h;rcases h with h|h|h|h;grind;grind
 ·refine .inr (.inr (.inl ⟨h.1,?_⟩));rcases hk:p.kids with _|⟨k,ks⟩;grind;simp
 ·refine .inr (.inr (.inr ⟨h.1,?_⟩));rcases hk:p.kids with _|⟨k,_|⟨a,ks⟩⟩;grind;simp;grind
def yK:∀(ks:List Pat) (n:Int),0<=n->n<=1000->(∀k∈ks,0<=kg k)->0<=fH ks n/\fH ks n<=1000
 | [],n,h0,h1,_=>by grind [fH]
 | k::ks,n,h0,h1,h=>by
   rw[fH];have:=h k (by simp);exact yK ks _ (by omega) (by omega) λx a=>h x (by grind)
def qcz{v:B->Bool}(p:Pat):fJ v p=true->0<=kg p/\kg p<=1000:=by
 induction p using eb with|_ p a=>?_
 intro h;have hk:=yK p.kids 0 (by omega) (by omega) λk hk=>(a k hk (eW h hk)).1
 have hn:=(eJ h).2.2;unfold nL at hn;rw[decide_eq_true_eq]at hn;rw[uj];generalize fH p.kids 0=n at hk;unfold FN;split;simp
 ·split
  ·rename_i h6;have hn:=hn h6;split
   ·have:0<=n* (p.mn+1):=qDB hk.1 (by omega);omega
   ·split;omega
    ·have:0<=n*p.mx:=qDB hk.1 (by omega);omega
  omega
def gG(w:Int×Int):Prop:=0<=w.1/\w.1<=10000/\ -1<=w.2/\w.2<=10000
def Z1{s:Bool}{a b:Int×Int}(c:gG a)(hb:gG b):gG (Lv s a b):=by
 grind [gG,Lv]
theorem T0(s:Bool):∀(ks:List Pat) (w:Int×Int),gG w->(∀k∈ks,gG (bG k))->gG (jZ s ks w)
 | [],w,h,_=>by grind [jZ]
 | k::ks,w,h,hk=>by
   rw[jZ];exact T0 s ks _ (Z1 h (hk k (by simp))) λx a=>hk x (by grind)
theorem vS{v:B->Bool}(p:Pat):fJ v p=true->gG (bG p):=by
 induction p using eb with|_ p b=>?_
 intro h;obtain⟨h1,_,hn⟩:=eJ h;unfold nL at hn;rw[decide_eq_true_eq]at hn;rcases qF h1 with⟨ho,_⟩|⟨ho,_⟩|⟨ho,k,ks,hk⟩|⟨ho,k,hk⟩
 grind [Z0,gG];grind [qeg,gG]
 ·rw[qef ho hk];grind [T0,eW]
 ·rw[qee ho hk];have a:=b k (by grind) (eW h (by grind));have hn:=hn ho;generalize bG k=w at a;unfold gG at*;have h1:0<=w.1*p.mn:=qDB a.1 hn.1;refine⟨by omega,by omega,?_⟩;simp only;split;simp
  ·split;simp
   ·have h2:0<=w.2*p.mx:=qDB (by omega) (by omega);omega
open Cod (enc dec)
mutual
def iX:Cond->Nat| .mk _ _ _ _ _ _ ks=>gE ks+1
def gE:List Cond->Nat|[]=>0|k::ks=>iX k+gE ks
end
def zt(x:Cond):iX x=gE x.kids+1:=by cases x;rw[iX]
def Cv:∀(a b:List Cond),gE (a++b)=gE a+gE b
 | [],b=>by rw[qC5,gE];omega
 |k::a,b=>by rw[qC8,gE,gE,Cv a b];omega
def QR:∀(a b:List Cond),li (a++b)=max (li a) (li b)
 | [],b=>by rw[qC5,li];omega
 |k::a,b=>by rw[qC8,li,li,QR a b];omega
def Iw:∀{ks:List Cond} {k:Cond},k∈ks->iX k<=gE ks
 | x::ks,k,h=>by
   rw[gE];rcases qCm.1 h with rfl|h
   ·omega
   ·have:=Iw h;omega
def qc1{ks:List Cond}{k:Nat}{x:Cond}(h:ks[k]? =some x):gE (ks.take (k+1))=gE (ks.take k) +iX x/\li (ks.take (k+1))=max (li (ks.take k)) (dE x)/\gE (ks.take k) +iX x<=gE ks:=by
 have e:=aB h;refine⟨by rw[e,Cv,gE,gE];omega,by rw[e,QR,li,li];omega,?_⟩
 conv=>rhs;rw[<-qCM (k+1) ks,Cv]
 rw[e,Cv,gE,gE];omega
def ll:B:=⟨#[]⟩
def lH(a:List Attr)(n:B):Int:=ij a λx=>decide (x.nm=n)
def zF(a:List Attr)(n:B):Int:=if n=ll then min 0 ((a.length:Int) -1)else lH a n
def qbL(c:UInt8):Bool:=(decide (65<=c.toNat) && decide (c.toNat<=90))||(decide (97<=c.toNat) && decide (c.toNat<=122))||decide (c.toNat=95)
def qyo(c:UInt8):Bool:=qbL c||(decide (48<=c.toNat) && decide (c.toNat<=57))||decide (c.toNat=45)
def It(s:B):Bool:=decide (1<=s.size/\s.size<=32) && (match s.data.toList with|c::_=>qbL c|[]=>false) && s.data.toList.all qyo
def BE(s:B):Bool:=decide (s.size<=120) && s.data.toList.all λc=>decide (32<=c.toNat/\c.toNat< 127)
def qpE(x:Cond):Bool:=
 if x.op=1 then decide (x.name=ll/\x.arg=ll/\x.val=ll/\x.lab=ll/\x.fold=false) && x.kids.isEmpty else
 if x.op=2 then decide (x.arg=ll/\x.lab=ll) && x.kids.isEmpty else
 if x.op=3 then decide (x.arg=ll/\x.lab=ll/\x.fold=false) && x.kids.isEmpty else
 if x.op=4 then decide (x.val=ll/\x.fold=false) && x.kids.isEmpty else
 if x.op=5 then decide (x.lab=ll/\x.fold=false/\(x.arg=ll->x.val=ll)) && x.kids.isEmpty else
 if x.op=6 then decide (x.name=ll/\x.arg=ll/\x.val=ll/\x.lab=ll/\x.fold=false) && decide (x.kids.length=1)else
 if x.op=7\/x.op=8 then decide (x.name=ll/\x.arg=ll/\x.val=ll/\x.lab=ll/\x.fold=false) && decide (2<=x.kids.length/\x.kids.length<=60)else false
def qmd(a:List Attr)(x:Cond):Bool:=
 if x.op=2 then decide (0<=zF a x.name)else
 if x.op=3 then decide (0<=lH a x.name)else
 if x.op=4 then decide (0<=lH a x.name/\0<=lH a x.arg)else
 if x.op=5 then It x.name && (decide (x.arg=ll)||It x.arg)else true
def qlt(s:B):Bool:=s.data.toList.any λc=>decide (c.toNat=124)
def qvP(a:List Attr)(lb:List B)(x:Cond):Bool:=
 if x.op=2 then(ox x.val).isSome else
 if x.op=3 then(match a[(lH a x.name).toNat]? with|some b=>b.st|none=>false) && decide (x.val≠ll) && !qlt x.val && BE x.val else
 if x.op=4 then lb.any λl=>decide (l=x.lab)else
 if x.op=5 then BE x.val else true
def sI(a:List Attr)(lb:List B)(x:Cond):Bool:=qpE x && qmd a x && qvP a lb x
def rW(a:List Attr)(lb:List B):Nat->Cond->Bool
 | 0=>λ_=>false
 |n+1=>λx=>sI a lb x && x.kids.all (rW a lb n)
def qka(a:List Attr)(lb:List B)(x:Cond):Bool:=decide (iX x<=60/\dE x<=20) && rW a lb 20 x
variable {S S0:Nat->Spc}
def nr{X:Type}{l:List X}{k:Nat}(h:k<l.length):∃x,l[k]? =some x:=⟨_,qCe h⟩
def qql(n:Nat)(x:Cond×Int×Int):Prop:=dE x.1<=n/\0<=x.2.1/\x.2.1+iX x.1<=60/\0<=x.2.2/\x.2.2+dE x.1<=1000/\dE x.1<=60
abbrev Vq(n:Nat):Spc:=aJ (a3 Cond Int Int) (qql n) (qR (Y:=Int) (Z:=Int)) λx y=>y=(x.2.1+iX x.1,x.2.2+dE x.1 -1)
abbrev Mj:Spc:=aJ (a3 Cond Int Int) (λx=>∃n,qql n x) (qR (Y:=Int) (Z:=Int)) λx y=>y=(x.2.1+iX x.1,x.2.2+dE x.1 -1)
theorem A2(n:Nat)(h1:S cH=Vq n):aq lc kC S (a3 Cond Int Int) (qql (n+1)) (qR (Y:=Int) (Z:=Int)) λx y=>y=(x.2.1+iX x.1,x.2.2+dE x.1 -1):=by
 rintro⟨x,nodes,deep⟩ ⟨hn,h0,h2,h3,h4,h5⟩;simp only at hn h0 h2 h3 h4 h5;have l:=Hl x;have p:=zt x;simp[lc,kC];refine⟨by simp only[InR];omega,λq=>?_⟩;refine ah (X:=Int×Int) [2,17] [] x.kids.length (λk z=>z.1=nodes+1+ (gE (x.kids.take k):Int)/\z.2=deep+ (li (x.kids.take k):Int)) (λz=>[(1,enc z.1),(8,enc z.2)]) (λ_=>[]) (nodes+1,deep) (by simp[gE,li]) ?_ ?_
 ·rintro k ⟨m,d⟩ hk ⟨c,a⟩;simp only at c a;obtain⟨y,h⟩:=nr hk;obtain⟨_,j⟩:=qCd.1 h;have hm:=qc1 h;have r:=Jl (qCg h);have hp:qql n (y,m,deep+1):=⟨by show dE y<=n;omega,by show 0<=m;omega,by show m+iX y<=60;omega,by show 0<=deep+1;omega,by show deep+1+dE y<=1000;omega,by show dE y<=60;omega⟩
  have b:¬60<m:=by have:=zt y;omega
  simp[h1,hk,h,j,hp,b];exact⟨by simp only[InR];omega,by omega,by rw[hm.2.1,a];omega⟩
 ·rintro⟨m,d⟩ ⟨c,a⟩;simp only at c a;rw[qCx]at c a;simp;exact⟨by omega,by omega⟩
abbrev Vs:Spc:=aJ (a1 Cond) (λx=>iX x<=60/\dE x<=60) (enc (X:=Bool)) λ_ y=>y=false
def Fl(h1:S cH=Mj):aq nl mV S (a1 Cond) (λx=>iX x<=60/\dE x<=60) (enc (X:=Bool)) λ_ y=>y=false:=by
 rintro x ⟨hn,a⟩;have hp:∃n,qql n (x,0,1):=⟨dE x,qCj _,qDe _,by show(0:Int) +iX x<=60;omega,by show(0:Int)<=1;omega,by show(1:Int) +dE x<=1000;omega,a⟩
 simp[nl,mV,h1,hp,-fB',-eB'];omega
abbrev PY:Spc:=aJ (a1 Cond) (λx=>qpE x=true) (enc (X:=Bool)) λ_ y=>y=true
set_option maxHeartbeats 1000000 in
theorem DN:aq bw bu S (a1 Cond) (λx=>qpE x=true) (enc (X:=Bool)) λ_ y=>y=true:=by
 rintro⟨op,name,arg,val,lab,fold,ks⟩ hx;have hx:qpE ⟨op,name,arg,val,lab,fold,ks⟩=true:=hx;unfold qpE at hx;simp only at hx;split at hx
 ·rename_i e;subst e;simp at hx;obtain⟨⟨rfl,rfl,rfl,rfl,rfl⟩,rfl⟩:=hx;simp[bw,bu,ll,-fB',-eB']
 split at hx
 ·rename_i e;subst e;simp at hx;obtain⟨⟨rfl,rfl⟩,rfl⟩:=hx;simp[bw,bu,ll,-fB',-eB']
 split at hx
 ·rename_i e;subst e;simp at hx;obtain⟨⟨rfl,rfl,rfl⟩,rfl⟩:=hx;simp[bw,bu,ll,-fB',-eB']
 split at hx
 ·rename_i e;subst e;simp at hx;obtain⟨⟨rfl,rfl⟩,rfl⟩:=hx;simp[bw,bu,ll,-fB',-eB']
 split at hx
 ·rename_i e;subst e;simp at hx;obtain⟨⟨rfl,rfl,hav⟩,rfl⟩:=hx;by_cases ha:arg=ll
  ·have hv:=hav.resolve_left λh=>h ha
   subst ha;subst hv;simp[bw,bu,ll,-fB',-eB']
  ·have ha':¬arg=⟨#[]⟩:=ha;simp[bw,bu,ll,ha',-fB',-eB']
 split at hx
 ·rename_i e;subst e;simp at hx;obtain⟨⟨rfl,rfl,rfl,rfl,rfl⟩,hk⟩:=hx;simp[bw,bu,ll,hk,-fB',-eB']
 split at hx
 ·rename_i e;simp at hx;obtain⟨⟨rfl,rfl,rfl,rfl,rfl⟩,hk1,hk2⟩:=hx;have q1:(2:Int)<=(ks.length:Int):=by omega
  have q2:(ks.length:Int)<=60:=by omega
  have q3:(ks.length:Int)<=9223372036854775807:=by omega
  rcases e with rfl|rfl<;>simp[bw,bu,ll,q1,q2,q3,-fB',-eB']
 ·cases hx
end
end Go.Gv
