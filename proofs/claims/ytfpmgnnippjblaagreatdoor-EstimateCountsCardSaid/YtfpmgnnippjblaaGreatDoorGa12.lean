/- W151 -/
import Derived.Test.YtfpmgnnippjblaaGreatDoorGa11
set_option linter.all false
set_option maxRecDepth 100000
set_option maxHeartbeats 0
open Bool renaming forall_bool → fB', exists_bool → eB'
namespace Go.Gv
section
open Cod (enc dec)
variable {S S0:Nat->Spc}
def bD{X:Type}{l:List X}{k:Nat}(h:k<l.length):∃x,l[k]? =some x:=⟨_,qBe h⟩
def qps(n:Nat)(x:Cond×Int×Int):Prop:=bb x.1<=n/\0<=x.2.1/\x.2.1+cM x.1<=60/\0<=x.2.2/\x.2.2+bb x.1<=1000/\bb x.1<=60
abbrev VN(n:Nat):Spc:=aA (a3 Cond Int Int) (qps n) (lH (Y:=Int) (Z:=Int)) λx y=>y=(x.2.1+cM x.1,x.2.2+bb x.1 -1)
abbrev Mg:Spc:=aA (a3 Cond Int Int) (λx=>∃n,qps n x) (lH (Y:=Int) (Z:=Int)) λx y=>y=(x.2.1+cM x.1,x.2.2+bb x.1 -1)
theorem Ay(n:Nat)(h1:S dn=VN n):aq kq jK S (a3 Cond Int Int) (qps (n+1)) (lH (Y:=Int) (Z:=Int)) λx y=>y=(x.2.1+cM x.1,x.2.2+bb x.1 -1):=by
 rintro⟨x,nodes,deep⟩ ⟨hn,h0,h2,h3,h4,h5⟩;simp only at hn h0 h2 h3 h4 h5;have l:=zC x;have p:=qC x;simp[kq,jK];refine⟨by simp only[InR];omega,λq=>?_⟩;refine ah (X:=Int×Int) [2,17] [] x.kids.length (λk z=>z.1=nodes+1+ (fK (x.kids.take k):Int)/\z.2=deep+ (iQ (x.kids.take k):Int)) (λz=>[(1,enc z.1),(8,enc z.2)]) (λ_=>[]) (nodes+1,deep) (by simp[fK,iQ]) ?_ ?_
 ·rintro k ⟨m,d⟩ hk ⟨c,a⟩;simp only at c a;obtain⟨y,h⟩:=bD hk;obtain⟨_,j⟩:=qBc.1 h;have hm:=Ql h;have r:=Ck (qBf h);have hp:qps n (y,m,deep+1):=⟨by show bb y<=n;omega,by show 0<=m;omega,by show m+cM y<=60;omega,by show 0<=deep+1;omega,by show deep+1+bb y<=1000;omega,by show bb y<=60;omega⟩
  have b:¬60<m:=by have:=qC y;omega
  simp[h1,hk,h,j,hp,b];exact⟨by simp only[InR];omega,by omega,by rw[hm.2.1,a];omega⟩
 ·rintro⟨m,d⟩ ⟨c,a⟩;simp only at c a;rw[qBm]at c a;simp;exact⟨by omega,by omega⟩
abbrev VO:Spc:=aA (a1 Cond) (λx=>cM x<=60/\bb x<=60) (enc (X:=Bool)) λ_ y=>y=false
def Fi(h1:S dn=Mg):aq mE mj S (a1 Cond) (λx=>cM x<=60/\bb x<=60) (enc (X:=Bool)) λ_ y=>y=false:=by
 rintro x ⟨hn,a⟩;have hp:∃n,qps n (x,0,1):=⟨bb x,qBj _,qCi _,by show(0:Int) +cM x<=60;omega,by show(0:Int)<=1;omega,by show(1:Int) +bb x<=1000;omega,a⟩
 simp[mE,mj,h1,hp,-fB',-eB'];omega
abbrev P3:Spc:=aA (a1 Cond) (λx=>qcF x=true) (enc (X:=Bool)) λ_ y=>y=true
set_option maxHeartbeats 1000000 in
theorem DA:aq bq bj S (a1 Cond) (λx=>qcF x=true) (enc (X:=Bool)) λ_ y=>y=true:=by
 rintro⟨op,name,arg,val,lab,fold,ks⟩ hx;have hx:qcF ⟨op,name,arg,val,lab,fold,ks⟩=true:=hx;unfold qcF at hx;simp only at hx;split at hx
 ·rename_i e;subst e;simp at hx;obtain⟨⟨rfl,rfl,rfl,rfl,rfl⟩,rfl⟩:=hx;simp[bq,bj,eT,-fB',-eB']
 split at hx
 ·rename_i e;subst e;simp at hx;obtain⟨⟨rfl,rfl⟩,rfl⟩:=hx;simp[bq,bj,eT,-fB',-eB']
 split at hx
 ·rename_i e;subst e;simp at hx;obtain⟨⟨rfl,rfl,rfl⟩,rfl⟩:=hx;simp[bq,bj,eT,-fB',-eB']
 split at hx
 ·rename_i e;subst e;simp at hx;obtain⟨⟨rfl,rfl⟩,rfl⟩:=hx;simp[bq,bj,eT,-fB',-eB']
 split at hx
 ·rename_i e;subst e;simp at hx;obtain⟨⟨rfl,rfl,hav⟩,rfl⟩:=hx;by_cases ha:arg=eT
  ·have hv:=hav.resolve_left λh=>h ha
   subst ha;subst hv;simp[bq,bj,eT,-fB',-eB']
  ·have ha':¬arg=⟨#[]⟩:=ha;simp[bq,bj,eT,ha',-fB',-eB']
 split at hx
 ·rename_i e;subst e;simp at hx;obtain⟨⟨rfl,rfl,rfl,rfl,rfl⟩,hk⟩:=hx;simp[bq,bj,eT,hk,-fB',-eB']
 split at hx
 ·rename_i e;simp at hx;obtain⟨⟨rfl,rfl,rfl,rfl,rfl⟩,hk1,hk2⟩:=hx;have q1:(2:Int)<=(ks.length:Int):=by omega
  have q2:(ks.length:Int)<=60:=by omega
  have q3:(ks.length:Int)<=9223372036854775807:=by omega
  rcases e with rfl|rfl<;>simp[bq,bj,eT,q1,q2,q3,-fB',-eB']
 ·cases hx
def GD{X:Type}(p:X->Bool):∀l:List X, -1<=nK l p/\nK l p<l.length
 | []=>⟨qCi _,by simp[nK]⟩
 | x::l=>by
   have:=GD p l;rw[nK,qB2];split
   ·omega
   ·split<;>omega
open Classical in
noncomputable def aX{Z:Type}(v:Z->List D)(hi:∀z z',v z=v z'->z=z'):fm Z:=⟨λds=>if h:∃z,ds=v z then some h.choose else none,v,λds z h=>by
 split at h
 ·rename_i h';have e:h'.choose=z:=qBl h;rw[<-e,<-h'.choose_spec];exact⟨rfl,λk d d' h1 h2=>by rw[h1]at h2;cases h2;exact .same _⟩
 ·cases h⟩
open Classical in
def Jq{Z:Type}(v:Z->List D)(hi:∀z z',v z=v z'->z=z')(z:Z):(aX v hi).dec (v z)=some z:=by
 have h:∃z',v z=v z':=⟨z,rfl⟩
 show(if h:∃z',v z=v z' then some h.choose else none)=some z;rw[dif_pos h];exact congrArg some (hi _ _ h.choose_spec).symm
def Hu{Z:Type}(v:Z->List D)(hi:∀z a,v z=v a->z=a)(z:Z):(aX v hi).view z=v z:=rfl
def qcu(x:Attr×B):List D:=[enc x.1, .cptr [enc x.2] 0]
def UW(z b:Attr×B)(h:qcu z=qcu b):z=b:=by
 obtain⟨a,s⟩:=z;obtain⟨c,d⟩:=b;unfold qcu at h;simp only[qB6,D.cptr.injEq,and_true]at h;rw[cS h.1,cS h.2]
noncomputable abbrev qse:fm (Attr×B):=aX qcu UW
noncomputable abbrev RX:Spc:=aA qse (λ_=>True) (enc (X:=Bool)) λx y=>y=decide (x.1.nm=x.2)
def wR:aq gi fZ S qse (λ_=>True) (enc (X:=Bool)) λx y=>y=decide (x.1.nm=x.2):=by
 rintro⟨a,s⟩ -;rw[Hu];simp[qcu,gi,fZ,-fB',-eB']
abbrev B1:Spc:=aA (a2 (List Attr) B) (λ_=>True) (enc (X:=Int)) λx y=>y=dA x.1 x.2
def zX(h0:S0 bS=RX)(h1:S eG=Zi Attr S0):aq iB ig S (a2 (List Attr) B) (λ_=>True) (enc (X:=Int)) λx y=>y=dA x.1 x.2:=by
 rintro⟨a,s⟩ -;have c:FunOn S0 (.clo bS [.cptr [enc s] 0]) a λx=>decide (x.nm=s):=
  xD (f:=λx=>(x,s)) h0 (λx _=>Jq qcu UW (x,s)) (λ_ _=>trivial) (λx _ y b=>b)
 simp[iB,ig,h1,-fB',-eB'];exact⟨⟨_,c⟩,λy b=>b _ c⟩
abbrev Mj:Spc:=aA (a2 (List Attr) B) (λx=>x.1.length<=1000) (enc (X:=Int)) λx y=>y=pS x.1 x.2
def Fj(h1:S bK=B1):aq iA ic S (a2 (List Attr) B) (λx=>x.1.length<=1000) (enc (X:=Int)) λx y=>y=pS x.1 x.2:=by
 rintro⟨a,s⟩ hl;have hl:a.length<=1000:=hl;have b:InR .i64 ((a.length:Int) -1):=by simp only[InR];omega
 have c:(a.length:Int)<=9223372036854775807:=by omega
 by_cases hs:s=eT
 ·subst hs;simp[iA,ic,eT,pS,b,c,-fB',-eB']
 ·have d:¬s=⟨#[]⟩:=hs;simp[iA,ic,eT,pS,h1,d,-fB',-eB']
def qR(t:List (List B))(i k:Int):B:=if i< 0\/k< 0 then eT else match t[i.toNat]? with
 |some r=>(match r[k.toNat]? with|some s=>s|none=>eT)
 |none=>eT
abbrev VT:Spc:=aA (a3 Corpus Int Int) (λx=>x.1.toks.length<=100000/\∀r∈x.1.toks,r.length<=100000) (enc (X:=B)) λx y=>y=qR x.1.toks x.2.1 x.2.2
theorem Fl:aq bZ bU S (a3 Corpus Int Int) (λx=>x.1.toks.length<=100000/\∀r∈x.1.toks,r.length<=100000) (enc (X:=B)) λx y=>y=qR x.1.toks x.2.1 x.2.2:=by
 rintro⟨c,i,k⟩ ⟨hl,p⟩;simp only at hl p;have a:(c.toks.length:Int)<=9223372036854775807:=by omega
 by_cases h0:i< 0
 ·simp[bZ,bU,h0,qR,-fB',-eB'];rfl
 by_cases h1:(c.toks.length:Int)<=i
 ·have hn:c.toks[i.toNat]? =none:=qBE (by omega);by_cases h2:k< 0
  ·simp[bZ,bU,h0,h1,h2,a,qR,-fB',-eB'];rfl
  ·simp[bZ,bU,h0,h1,h2,a,hn,qR,-fB',-eB'];rfl
 by_cases h2:k< 0
 ·simp[bZ,bU,h0,h1,h2,a,qR,-fB',-eB'];rfl
 obtain⟨r,b⟩:=bD (show i.toNat<c.toks.length by omega);obtain⟨_,h⟩:=qBc.1 b;have u:=p r (qBf b);have d:(r.length:Int)<=9223372036854775807:=by omega
 have q:0<=i:=by omega
 have t:i<(c.toks.length:Int):=by omega
 have w:0<=k:=by omega
 by_cases h3:(r.length:Int)<=k
 ·have hn:r[k.toNat]? =none:=qBE (by omega);simp[bZ,bU,h0,h1,h2,h3,a,d,hn,b,h,q,t,qR,-fB',-eB'];rfl
 obtain⟨s,j⟩:=bD (show k.toNat<r.length by omega);obtain⟨_,l⟩:=qBc.1 j;have A:k<(r.length:Int):=by omega
 simp[bZ,bU,h0,h1,h2,h3,a,d,b,h,j,l,q,t,w,A,qR,-fB',-eB']
abbrev qaI:Spc:=aA (a1 B) (λs=>IE s=true) (enc (X:=Bool)) λ_ y=>y=true
abbrev Id:Spc:=aA (a1 B) (λs=>A9 s=true) (enc (X:=Int)) λ_ y=>y=0
abbrev s_sConB:Spc:=aA (a2 B B) (λx=>x.2=⟨#[124]⟩/\A9 x.1=true) (enc (X:=Bool)) λx y=>y=qkS x.1
abbrev qfb:Spc:=aA (a1 B) (λs=>∃r,lj s=some r) (enc (X:=Int)) λ_ y=>y=0
def nL(l:List B)(s:B):Bool:=l.any λz=>decide (z=s)
abbrev Zf:Spc:=aA (a2 (List B) B) (λ_=>True) (enc (X:=Bool)) λx y=>y=nL x.1 x.2
abbrev RU:Spc:=aA (a2 (List B) B) (λ_=>True) (enc (X:=Int)) λx y=>y=nK x.1 λz=>decide (z=x.2)
theorem LH:aq ir gX S (a2 (List B) B) (λ_=>True) (enc (X:=Int)) λx y=>y=nK x.1 λz=>decide (z=x.2):=by
 rintro⟨l,s⟩ -;simp[ir,gX,-fB',-eB'];intro _;refine ah (X:=Unit) [0,1] [] l.length (λk _=>∀x∈l.take k,decide (x=s)=false) (λ_=>[]) (λ_=>[]) () (by simp) ?_ ?_
 ·intro k _ hk a;obtain⟨x,b⟩:=bD hk;obtain⟨_,c⟩:=qBc.1 b;simp[hk,b,c,-fB',-eB'];refine⟨λh=>?_,λh=>?_⟩
  ·exact(sR b (by simp[h]) a).symm
  ·rw[au b];intro z hz;rcases qBo.1 hz with hz|hz
   ·have:=a z hz;simpa using this
   ·simp at hz;subst hz;exactλe=>h e.symm
 ·intro _ a;simp[-fB',-eB'];exact(kH (by simpa using a)).symm
def Fp(h1:S dx=RU):aq cw cv S (a2 (List B) B) (λ_=>True) (enc (X:=Bool)) λx y=>y=nL x.1 x.2:=by
 rintro⟨l,s⟩ -;simp[cw,cv,h1,-fB',-eB'];exact Cb _ l
abbrev VM:Spc:=aA (a2 Cond (List Attr)) (λx=>qjK x.2 x.1=true/\x.2.length<=1000) (enc (X:=Bool)) λ_ y=>y=true
theorem Fg(h1:S jw=Mj)(h2:S bK=B1)(h3:S bC=qaI):aq bY bT S (a2 Cond (List Attr)) (λx=>qjK x.2 x.1=true/\x.2.length<=1000) (enc (X:=Bool)) λ_ y=>y=true:=by
 rintro⟨⟨op,name,arg,val,lab,fold,ks⟩,a⟩ ⟨b,hl⟩;have b:qjK a ⟨op,name,arg,val,lab,fold,ks⟩=true:=b;have hl:a.length<=1000:=hl;unfold qjK at b;simp only at b;split at b
 ·rename_i e;subst e;simp at b;simp[bY,bT,h1,hl,b,-fB',-eB']
 rename_i j;split at b
 ·rename_i e;subst e;simp at b;simp[bY,bT,h2,b,-fB',-eB']
 rename_i k;split at b
 ·rename_i e;subst e;simp at b;simp[bY,bT,h2,b.1,b.2,-fB',-eB']
 rename_i l;split at b
 ·rename_i e;subst e;simp at b;obtain⟨hn,p⟩:=b;by_cases c:arg=eT
  ·subst c;simp[bY,bT,h3,hn,eT,-fB',-eB']
  ·have h:=p.resolve_left c;have d:¬arg=⟨#[]⟩:=c;simp[bY,bT,h3,hn,h,d,-fB',-eB']
 rename_i q;simp[bY,bT,j,k,l,q,-fB',-eB']
abbrev VS:Spc:=aA (a3 Cond (List Attr) (List B)) (λx=>mT x.2.1 x.2.2 x.1=true/\x.2.1.length<=1000) (enc (X:=Int)) λ_ y=>y=0
theorem Fk(h1:S oc=P3)(h2:S od=VM)(h3:S qL=qfb)(h4:S bK=B1)(h5:S tO=s_sConB)(h6:S cz=Id)(l:S aS=Zf):
 aq cW cV S (a3 Cond (List Attr) (List B)) (λx=>mT x.2.1 x.2.2 x.1=true/\x.2.1.length<=1000) (enc (X:=Int)) λ_ y=>y=0:=by
 rintro⟨x,a,lb⟩ ⟨c,hl⟩;have c:mT a lb x=true:=c;have hl:a.length<=1000:=hl;unfold mT at c;simp only[qBh]at c;obtain⟨⟨hs,hn⟩,hc⟩:=c;obtain⟨op,name,arg,val,lab,fold,ks⟩:=x;unfold qrU at hc;simp only at hc;have e:(Cond.mk op name arg val lab fold ks)=⟨op,name,arg,val,lab,fold,ks⟩:=rfl;split at hc
 ·rename_i e;subst e;obtain⟨r,p⟩:=qBW.1 hc;simp[cW,cV,h1,h2,h3,hs,hn,hl,p,-fB',-eB']
 rename_i q;split at hc
 ·rename_i e;subst e;simp only[qBh]at hc;obtain⟨⟨⟨c1,c2⟩,c3⟩,c4⟩:=hc;have d:0<=dA a name:=by simpa [qjK]using hn
  have h:=(GD (λx:Attr=>decide (x.nm=name)) a).2;have j:dA a name<a.length:=h;obtain⟨b,hb⟩:=bD (show(dA a name).toNat<a.length by omega);obtain⟨_,k⟩:=qBc.1 hb;rw[hb]at c1;have c1:b.st=true:=c1;have c2:¬val=⟨#[]⟩:=of_decide_eq_true c2;have c3:qkS val=false:=by simpa using c3
  simp[cW,cV,h1,h2,h4,h5,h6,hs,hn,hl,d,j,hb,k,c1,c2,c3,c4,-fB',-eB']
 rename_i s;split at hc
 ·rename_i e;subst e;have hc:nL lb lab=true:=hc;simp[cW,cV,h1,h2,l,hs,hn,hl,hc,-fB',-eB']
 rename_i t;split at hc
 ·rename_i e;subst e;simp[cW,cV,h1,h2,h6,hs,hn,hl,hc,-fB',-eB']
 rename_i u;simp[cW,cV,h1,h2,hs,hn,hl,q,s,t,u,-fB',-eB']
end
section
open Go.Proofs
def zh:CC:=gq Tryz.f174 [2] {} _
def yf:List ai:=[.tmp 4, .tmp 5]
def Sq:FO rj [2] zh yf 42:=fo
def zi:CC:=gq Tryz.f110 [1] {} _
def yg:List ai:=[.tmp 2, .tmp 3]
def Ss:FO rk [1] zi yg 8:=fo
def qh:CC:=gq Tryz.f145 [] {} _
def px:List ai:=[.tmp 4]
def Ir:FO fE [] qh px 20:=fo
def Jd:CC:=gq Tryz.f261 [] {} _
def Ih:List ai:=[.tmp 4]
def qcX:FO G0 [] Jd Ih 17:=fo
def dT:CC:=gq Tryz.f259 [1] {} _
def dQ:List ai:=[.tmp 2]
def Sr:FO vj [1] dT dQ 82:=fo
def fU:CC:=gq Tryz.f203 [3] {} _
def fI:List ai:=[.tmp 6]
def Wo:FO Ev [3] fU fI 93:=fo
def zg:CC:=gq Tryz.f141 [3] {} _
def ye:List ai:=[.tmp 6]
def Sp:FO ri [3] zg ye 33:=fo
def sf:CC:=gq Tryz.f81 [3] {} _
def rH:List ai:=[.tmp 6]
def KA:FO nT [3] sf rH 24:=fo
def cU:CC:=gq Tryz.f112 [5,6] {} _
def cQ:List ai:=[.tmp 10]
def So:FO vi [5,6] cU cQ 187:=fo
def RSub(r r':Res):Prop:=r=r'\/ ∃b cs cs',r= .box b cs/\r'= .box b cs'/\cs.length=cs'.length/\∀(m:Nat) (c c':D),cs[m]? =some c->cs'[m]? =some c'->Yl c c'
theorem RSub.blk{r r':Res}(h:RSub r r'):r'.blk=r.blk:=by
 grind [Res.blk,RSub]
def RSub.ok{tp I:Nat->Prop}{w w':World}{r r':Res}(h:RSub r r')(d:ResOk (R tp I w) w' r):ResOk (R tp I w) w' r':=by
 rcases h with rfl|⟨b,cs,cs',rfl,rfl,hl,hc⟩;omega
 ·obtain⟨xs,el,h1,h2,h3⟩:=d;refine⟨xs,el,h1,h2.trans hl,λk y c j a=>?_⟩;have hk:k<cs.length:=by grind
  have h4:=h3 k y cs[k] j (qBe hk);exact⟨h4.1,qlT (hc k _ _ (qBe hk) a) h4.2⟩
theorem StW.ren{E:zW}{tp:Nat->Prop}{H H':ab}{w:World}(ρ:Nat->Nat)(h:StW E tp H w)(k:∀i j r s,H' i=some r->H' j=some s->ρ i=ρ j->i=j)
 (hs:∀i r,H' i=some r->∃a,H (ρ i)=some a/\RSub a r):
 StW E tp H' w/\∀x d,R tp (aW E.O tp H w) w x d->R tp (aW E.O tp H' w) w x d:=by
 have c:∀b,bA H' b->bA H b:=λb ⟨i,r,h1,h2⟩=>by
  obtain⟨a,h3,h4⟩:=hs i r h1;exact⟨ρ i,a,h3,h4.blk ▸h2⟩
 have move:∀x d,R tp (aW E.O tp H w) w x d->R tp (aW E.O tp H' w) w x d:=λx d l=>
  l.mono (λ_ h=>h) (λb hb=>⟨⟨hb.1,hb.2.1,hb.2.2.1,λho=>hb.2.2.2 (c b ho)⟩,rfl⟩) (λb _=> .refl _ _)
 refine⟨⟨h.hO,h.tpx,h.tpn,h.tpl,h.step,λb hb=>h.loc b (c b hb),⟨λi j r s b h1 h2 h3 h4=>?_,λi r b h1 h2=>?_,λi r h1=>?_⟩⟩,move⟩
 ·obtain⟨a,a1,a2⟩:=hs i r h1;obtain⟨p,b1,b2⟩:=hs j s h2;exact k i j r s h1 h2 (h.sat.dis _ _ a p b a1 b1 (a2.blk ▸h3) (b2.blk ▸h4))
 ·obtain⟨a,a1,a2⟩:=hs i r h1;exact h.sat.out _ a b a1 (a2.blk ▸h2)
 ·obtain⟨a,a1,a2⟩:=hs i r h1;exact a2.ok ((h.sat.ok _ a a1).conv move (λ_ _=>rfl))
theorem ql7{σ:Sg}{H:ab}(i j k b:Nat)(cs cs':List D)(q:i≠j)(hk:k≠i/\k≠j)(d:H k=some (.box b cs))(hl:cs.length=cs'.length)(hc:∀(m:Nat) (c c':D),cs[m]? =some c->cs'[m]? =some c'->Yl c c'):
 Wk σ H σ (ak (ak (ak H i none) j (H i)) k (some (.box b cs'))):=by
 intro E a w h;obtain⟨u,x,tp,y,A⟩:=h;have hm:=y.ren (H':=ak (ak (ak H i none) j (H i)) k (some (.box b cs'))) (λt=>if t=j then i else t) (λa c r s h1 h2 h3=>?_) (λt r h1=>?_)
 ·exact⟨u,x,tp,hm.1,λt=>hm.2 _ _ (A t)⟩
 ·simp only[ak]at h1 h2;grind
 ·simp only[ak]at h1;by_cases l:t=k
  ·subst l;simp only[if_true]at h1;cases h1;simp only[hk.2,if_false];exact⟨_,d, .inr ⟨b,cs,cs',rfl,rfl,hl,hc⟩⟩
  ·simp only[l,if_false]at h1;by_cases p:t=j
   ·simp only[p,if_true]at h1 ⊢;exact⟨r,h1, .inl rfl⟩
   ·simp only[p,if_false]at h1 ⊢;by_cases C:t=i;grind
    ·simp only[C,if_false]at h1;exact⟨r,h1, .inl rfl⟩
section
variable {S:Nat->Spc}{σ σ1:Sg}{H H1:ab}{K:Ex->Sg->ab->Prop}
theorem qem{k:Nat}{b:CC}(a:Wk σ H σ1 H1)(h:vc S (.loop k b) K σ1 H1):vc S (.loop k b) K σ H:=by
 grind [Wk,TB]
def H4{id i n c a b:Nat}{body:CC}(d:Wk σ H σ1 H1)(h:vc S (uX id i n c a body b) K σ1 H1):vc S (uX id i n c a body b) K σ H:=by
 grind [uX,TC,qem]
end
variable {dq:Prop}
section
variable {X Y:Type}
def qyw(ce:X->List D)(cf:Y->List D)(pre:X->Prop)(post:X->Y->Prop):PT:=λd ds H K=>∃L id b x,ds=[.tape L, .bptr id b 0]/\H id=some (.box b (ce x))/\pre x/\∀y,post x y->K (.tup []) (ak H id (some (.box b (cf y))))
def qkN(ce:X->List D)(cf:Y->List D)(pre:X->Prop)(post:X->Y->Prop):sD (qyw ce cf pre post):=λd ds H K c hk ⟨L,id,b,x,h1,h2,h3,h4⟩=>⟨L,id,b,x,h1,h2,h3,λy a=>hk _ _ (h4 y a)⟩
def qvh(ce:X->List D)(cf:Y->List D)(pre:X->Prop)(post:X->Y->Prop):Spc:= .gen _ (qkN ce cf pre post)
def qyv(ce:X->List D)(cf:Y->List D)(pre:X->Prop)(post:X->Y->Prop)(id b:Nat)(r:Option Res)(H:ab)(K:D->ab->Prop):Prop:=∃x,r=some (.box b (ce x))/\pre x/\∀y,post x y->K (.tup []) (ak H id (some (.box b (cf y))))
@[congr] theorem qyu{ce:X->List D}{cf:Y->List D}{pre:X->Prop}{post:X->Y->Prop}{id b:Nat}{r r':Option Res}{H:ab}{K:D->ab->Prop}(h:r=r'):qyv ce cf pre post id b r H K=qyv ce cf pre post id b r' H K:=by grind
@[simp] theorem qyx(ce:X->List D)(cf:Y->List D)(pre:X->Prop)(post:X->Y->Prop)(d i b:Nat)(L:List Int)(H:ab)(K:D->ab->Prop):(qvh ce cf pre post).pt d [.tape L, .bptr i b 0] H K=qyv ce cf pre post i b (H i) H K:=by
 refine propext ⟨λh=>?_,λh=>?_⟩
 ·obtain⟨a,id,b',x,h1,h2,h3,h4⟩:=h;cases h1;exact⟨x,h2,h3,h4⟩
 ·obtain⟨x,h1,h2,h3⟩:=h;exact⟨L,i,b,x,rfl,h1,h2,h3⟩
variable {P:Program}{S:Nat->Spc}{f:Nat}{im:List Nat}{cc:CC}{rs:List ai}{N:Nat}
end
def HWk(H a:ab):Prop:=∀(E:zW) (tp:Nat->Prop) (w:World),StW E tp H w->StW E tp a w/\∀x d,R tp (aW E.O tp H w) w x d->R tp (aW E.O tp a w) w x d
def HWk.refl(H:ab):HWk H H:=λ_ _ _ h=>⟨h,λ_ _ h=>h⟩
def Wk.trans{σ b c:Sg}{H d j:ab}(h:Wk σ H b d)(k:Wk b d c j):Wk σ H c j:=λE a w hs=>k E a w (h E a w hs)
def qki(k:Nat)(ks:List Nat)(H:ab):ab:=λi=>if i=k\/i∈ks then none else H i
def left(k b:Nat)(cs:List D)(ks:List Nat)(H:ab):ab:=λi=>if i=k then some (.box b cs)else if i∈ks then H i else none
theorem qka{H:ab}(k b:Nat)(cs cs':List D)(ks:List Nat)(hk:H k=some (.box b cs))(hl:cs.length=cs'.length)
 (hc:∀(m:Nat) (c c':D),cs[m]? =some c->cs'[m]? =some c'->FrzTo (qki k ks H) c c'):HWk H (left k b cs' ks H):=by
 intro E tp w h;have hs:∀i r,left k b cs' ks H i=some r->(i=k/\r= .box b cs')\/(i≠k/\i∈ks/\H i=some r):=λi r h1=>by
  grind [left]
 have a:∀i r c,left k b cs' ks H i=some r->r.blk=some c->∃q,H i=some q/\q.blk=some c:=λi r c h1 h2=>by
  grind [Res.blk]
 have l:∀c,bA (left k b cs' ks H) c->bA H c:=λc ⟨i,r,h1,h2⟩=>by
  grind [bA]
 have p:∀c,aW E.O tp H w c->aW E.O tp (left k b cs' ks H) w c:=λc hb=>⟨hb.1,hb.2.1,hb.2.2.1,λho=>hb.2.2.2 (l c ho)⟩
 have move:∀x d,R tp (aW E.O tp H w) w x d->R tp (aW E.O tp (left k b cs' ks H) w) w x d:=λx d A=>
  A.mono (λ_ h=>h) (λb hb=>⟨p b hb,rfl⟩) (λb _=> .refl _ _)
 refine⟨⟨h.hO,h.tpx,h.tpn,h.tpl,h.step,λb hb=>h.loc b (l b hb),⟨λi j r s c h1 h2 h3 h4=>?_,λi r c h1 h2=>?_,λi r h1=>?_⟩⟩,move⟩
 ·obtain⟨q,a1,a2⟩:=a i r c h1 h3;obtain⟨t,b1,b2⟩:=a j s c h2 h4;exact h.sat.dis i j q t c a1 b1 a2 b2
 ·obtain⟨q,a1,a2⟩:=a i r c h1 h2;exact h.sat.out i q c a1 a2
 ·rcases hs i r h1 with⟨rfl,rfl⟩|⟨_,_,h3⟩
  ·obtain⟨xs,el,h1,h2,h3⟩:=h.sat.ok _ _ hk;refine⟨xs,el,h1,h2.trans hl,λm y c C u=>?_⟩;have hm:m<cs.length:=by grind
   have h4:=h3 m y cs[m] C (qBe hm);refine⟨h4.1,(hc m _ _ (qBe hm) u).R (H:=cX) (λi r hi=>?_) p (λi r c hi hb=>?_) h4.2⟩
   ·simp only[qki]at hi;split at hi;grind
    ·exact h.sat.ok i r hi
   ·simp only[qki]at hi;split at hi;grind
    ·rename_i hn;have ho:=h.sat.out i r c hi hb;refine⟨(h.sat.ok i r hi).lt hb,ho.1,ho.2,λ⟨j,s,F,I⟩=>?_⟩;obtain⟨t,J,L⟩:=a j s c F I;have e:=h.sat.dis i j r t c hi J hb L;grind
  ·exact(h.sat.ok i r h3).conv move (λ_ _=>rfl)
section
variable {S:Nat->Spc}{σ:Sg}{H:ab}{K:Ex->Sg->ab->Prop}
def qiW{X:Type}(P:X->Prop)(s:X->Sg)(h:X->ab){k:Nat}{a b:CC}
 (d:vc S a (Zw (λc H'=>∃x,P x/\Wk c H' (s x) (h x)) K) σ H)
 (hb:∀x,P x->vc S b K (s x) (h x)):vc S (Y9 k a b) K σ H:=by
 grind [vc,Y9,xS,Zw]
end
section
variable {P:Program}{im:List Nat}{E:zW}{S:Nat->Spc}
theorem Y0{f:Nat}{fn:Func}{code:Code}{cc:CC}{rs:List ai}{A:PT}(hS:∀f,Tri dq P f (S f).pt)(hmix:P.follows .mixedOrders=true)(hf:P.funcs[f]? =some fn)(hb:fn.body=some code)(hce:eE P f){N:Nat}(hN:fn.ntmps=N)
 (hcc:ay P im N code=some (bz cc)) (hrs:fn.results.toList.mapM (fa P)=some rs)
 (hA:∀ (ds:List D) (H:ab) (d:Nat) (K:D->ab->Prop),A d ds H K->ds.length<=N/\
   ∃ (Y:List D) (M:ab) (ι:Nat->Nat),LeL ds Y/\(∀i r,M i=some r->H (ι i)=some r)/\(∀i j r s,M i=some r->M j=some s->ι i=ι j->i=j)/\
    ∃Q:D->ab->Prop,vc S cc (uL rs Q) (dr Y) M/\∀r H',Q r H'->∃(r':D) (H2 Hf Hc:ab) (κ:Nat->Option Nat),HWk H' H2/\FrzTo Hf r r'/\(∀j q,Hf j=some q->H2 j=some q/\∀i,κ i≠some j)/\K r' Hc/\
     (∀i s,Hc i=some s->match κ i with|some j=>H2 j=some s|none=>H i=some s/\∀k q,M k=some q->ι k≠i)/\
     (∀i j k s q,Hc i=some s->Hc j=some q->κ i=some k->κ j=some k->i=j)):Tri dq P f A:=by
 intro O tp w vs ds H d K hO htl u hlen hargs hAK;refine⟨hce,?_⟩;obtain⟨hdN,Y,M,ι,hle,C,hinj,Q,hv,hQ⟩:=hA ds H d K hAK
 let W:Nat->Prop:=λi=>∃k q,M k=some q/\ι k=i
 let rest:Nat->Prop:=λb=>∃i r,H i=some r/\ ¬W i/\r.blk=some b
 let E:zW:={ O:=λb=>O b\/rest b,tp0:=tp,w0:=w,own0:=bA M,N:=N,dq:=dq }
 have y:∀b,bA M b->bA H b:=λb ⟨i,r,h1,h2⟩=>⟨ι i,r,C i r h1,h2⟩
 have Z:∀b,rest b->b<w.heap.size:=λb ⟨i,r,h1,_,h2⟩=>(u.ok i r h1).lt h2
 have I:∀b,rest b->¬bA M b:=λb ⟨i,r,h1,h2,h3⟩ ⟨j,s,h4,h5⟩=>h2 ⟨j,s,h4,(u.dis i (ι j) r s b h1 (C j s h4) h3 h5).symm⟩
 have himm:∀b,aW O tp H w b->aW E.O tp M w b:=λb hb=>⟨hb.1,λh=>h.elim hb.2.1 (λ⟨i,r,h1,_,h2⟩=>hb.2.2.2 ⟨i,r,h1,h2⟩),hb.2.2.1,λh=>hb.2.2.2 (y b h)⟩
 have hmove:∀x e,R tp (aW O tp H w) w x e->R tp (aW E.O tp M w) w x e:=λx e hr=>hr.mono (λ_ h=>h) (λb hb=>⟨himm b hb,rfl⟩) (λb _=> .refl _ _)
 have hstw:StW E tp M w:=by
  refine⟨λb hb=>hb.elim (hO b) (Z b),λb h=>h,λb h=> .inl h,⟨htl.1,htl.2.mono (λ_ h=>h) y⟩, .refl _ _ _,λb hb=> .inl hb,⟨λi j r s b h1 h2 h3 h4=>?_,λi r b h1 h2=>⟨λh=>?_,?_⟩,λi r h1=>?_⟩⟩
  ·exact hinj i j r s h1 h2 (u.dis _ _ r s b (C i r h1) (C j s h2) h3 h4)
  ·rcases h with h|h
   ·exact(u.out _ r b (C i r h1) h2).1 h
   ·exact I b h ⟨i,r,h1,h2⟩
  ·exact(u.out _ r b (C i r h1) h2).2
  ·exact(u.ok _ r (C i r h1)).conv hmove (λ_ _=>rfl)
 have hst:St E (dr Y) M { tmps:=vs.toArray++Array.replicate (fn.ntmps -vs.toArray.size) undef,defers:=[] } w:=by
  refine⟨rfl,?_,tp,hstw,λt=>?_⟩
  ·show(vs.toArray++Array.replicate (fn.ntmps -vs.toArray.size) undef).size=N;simp;omega
  ·unfold dr;cases hd:Y[t]? with
   |none=>exact .any _
   | some e'=>
     have hlt:t<vs.length:=by rw[hlen,hle.1];exact(qBc.1 hd).1
     have hlt':t<ds.length:=by rw[<-hlen];exact hlt
     have hg:(vs.toArray++Array.replicate (fn.ntmps -vs.toArray.size) undef).getD t undef=vs[t]:=by
      rw[qBR,qB0 (by simpa using hlt)];simp[hlt]
     simp only[qBP,hg];have he:=qBe hlt';exact(hle.2 t _ e' he hd).R (H:=cX) (λi r h=>by cases h) (λ_ h=>h) (λi r b h=>by cases h) (hmove _ _ (hargs t _ _ (by simp[hlt]) he))
 have hwp:=wS hS hmix cc code (by exact hcc) _ _ _ _ w hst hv;refine calls_of_wp hf hb (qCp ?_ hwp);have wK:∀a' w' J H',St E J H' a' w'->(xi rs J H' λds=>Q (dw ds) H')->
  a'.defers=[]/\∃v,(results fn a'.tmps).run P w'= .ok v w'/\qao dq O tp H w K (.returned v) w':=by
  intro a' w' J H' hst' hres;obtain⟨hd',hN',U,hw',hr'⟩:=hst';obtain⟨v,r0,hrun,hR,hq⟩:=qA (K:=λr=>Q r H') hrs hr' hw'.sat.ok hres;obtain⟨r,H2,Hf,Hc,κ,hW,hfz,hHf,hK,hκ,hκi⟩:=hQ r0 H' hq;obtain⟨p,mv2⟩:=hW _ _ _ hw';refine⟨hd',v,hrun,v,r,Hc,U,rfl,hK,p.tpx,p.tpn,p.tpl.1,?_,?_,?_,?_⟩
  ·-- the step
   have hs:=p.step;exact⟨hs.os,hs.tape,hs.output,hs.size,λb hb ho ht=>hs.same b hb (λh=>ho (y b h)) ht,hs.tapes,hs.drawn⟩
  all_goals
   have L:∀i s,Hc i=some s->(∃j,κ i=some j/\H2 j=some s)\/(κ i=none/\H i=some s/\ ¬W i):=λi s hi=>by
    have:=hκ i s hi;cases hk:κ i with
    |some j=>rw[hk]at this;exact .inl ⟨j,rfl,this⟩
    |none=>rw[hk]at this;exact .inr ⟨rfl,this.1,λ⟨k,q,h1,h2⟩=>this.2 k q h1 h2⟩
  ·intro b ⟨i,s,h1,h2⟩;rcases L i s h1 with⟨j,_,h3⟩|⟨_,h3,_⟩
   ·rcases p.loc b ⟨j,s,h3,h2⟩with h4|h4
    ·exact .inl (y b h4)
    ·exact .inr h4
   ·exact .inl ⟨i,s,h3,h2⟩
  all_goals
   have hownc:∀b,bA Hc b->bA H2 b\/rest b:=λb ⟨i,s,h1,h2⟩=>by
    rcases L i s h1 with⟨j,_,h3⟩|⟨_,h3,h4⟩
    ·exact .inl ⟨j,s,h3,h2⟩
    ·exact .inr ⟨i,s,h3,h4,h2⟩
   have himmc:∀b,aW E.O U H2 w' b->aW O U Hc w' b:=λb hb=>⟨hb.1,λh=>hb.2.1 (.inl h),hb.2.2.1,λh=>by
    rcases hownc b h with h|h
    ·exact hb.2.2.2 h
    ·exact hb.2.1 (.inr h)⟩
   have hmovec:∀x e,R U (aW E.O U H2 w') w' x e->R U (aW O U Hc w') w' x e:=λx e hr=>hr.mono (λ_ h=>h) (λb hb=>⟨himmc b hb,rfl⟩) (λb _=> .refl _ _)
  ·refine⟨λi j s q b h1 h2 h3 h4=>?_,λi s b h1 h2=>?_,λi s h1=>?_⟩
   ·rcases L i s h1 with⟨i',e1,F⟩|⟨e1,F,p1⟩
    ·rcases L j q h2 with⟨j',e2,k2⟩|⟨e2,k2,p2⟩
     ·have:=p.sat.dis i' j' s q b F k2 h3 h4;subst this;exact hκi i j i' s q h1 h2 e1 e2
     ·exact absurd (Or.inr ⟨j,q,k2,p2,h4⟩) (p.sat.out i' s b F h3).1
    ·rcases L j q h2 with⟨j',e2,k2⟩|⟨e2,k2,p2⟩
     ·exact absurd (Or.inr ⟨i,s,F,p1,h3⟩) (p.sat.out j' q b k2 h4).1
     ·exact u.dis i j s q b F k2 h3 h4
   ·rcases L i s h1 with⟨i',e1,F⟩|⟨e1,F,p1⟩
    ·have:=p.sat.out i' s b F h2;exact⟨λh=>this.1 (.inl h),this.2⟩
    ·have h3:=u.out i s b F h2;refine⟨h3.1,λh=>?_⟩;rcases p.tpn b h with h4|h4
     ·exact h3.2 h4
     ·have:=(u.ok i s F).lt h2;have h4':w.heap.size<=b:=h4;omega
   ·rcases L i s h1 with⟨i',e1,F⟩|⟨e1,F,p1⟩
    ·exact(p.sat.ok i' s F).conv hmovec (λ_ _=>rfl)
    ·-- a resource that was not handed in is as it was
     have hs:=p.step;have hsame:∀b,b<w.heap.size->¬bA M b->¬tp b->w'.heap[b]? =w.heap[b]?:=hs.same;refine(u.ok i s F).conv (λx e hr=>?_) (λb hb=>hsame b ((u.ok i s F).lt hb) (I b ⟨i,s,F,p1,hb⟩) (u.out i s b F hb).2);refine hr.mono p.tpx (λb hb=>?_) hs.tapes;have h0:¬bA M b:=λh=>hb.2.2.2 (y b h)
     have hsz:w.heap.size<=w'.heap.size:=hs.size;have hbl:b<w.heap.size:=hb.1;refine⟨⟨by omega,hb.2.1,λh=>?_,λh=>?_⟩,hsame b hb.1 h0 hb.2.2.1⟩
     ·rcases p.tpn b h with h4|h4
      ·exact hb.2.2.1 h4
      ·have h4':w.heap.size<=b:=h4;omega
     ·rcases hownc b h with h|h
      ·rcases p.loc b h with h4|h4
       ·exact h0 h4
       ·have h4':w.heap.size<=b:=h4;omega
      ·obtain⟨j,q,h5,_,h6⟩:=h;exact hb.2.2.2 ⟨j,q,h5,h6⟩
  ·refine hfz.R (H:=cX) (λi q hi=>p.sat.ok i q (hHf i q hi).1) himmc (λi q b hi hb=>?_) (mv2 _ _ hR);obtain⟨hi',hne⟩:=hHf i q hi;have ho:=p.sat.out i q b hi' hb;refine⟨(p.sat.ok i q hi').lt hb,λh=>ho.1 (.inl h),ho.2,λ⟨j,s,h1,h2⟩=>?_⟩;rcases L j s h1 with⟨j',e1,F⟩|⟨e1,F,p1⟩
   ·have:=p.sat.dis i j' q s b hi' F hb h2;subst this;exact hne j e1
   ·exact ho.1 (.inr ⟨j,s,F,p1,h2⟩)
 intro e a' w' hp;cases e with
 | normal=>
   obtain⟨J,H',hs,hk⟩:=hp;exact wK a' w' J H' hs hk
 | ret=>
   obtain⟨J,H',hs,hk⟩:=hp;exact wK a' w' J H' hs hk
 | exit i=>
   obtain⟨J,H',hs,hk⟩:=hp;exact hk.elim
 |goto l=>exact hp.elim
 |panic c=>exact hp.elim
 |outgrown=>exact hp.elim
end
end
section
def RFz(Hf:ab):Res->Res->Prop
 | .box b cs, .box b' cs'=>b=b'/\cs.length=cs'.length/\∀(m:Nat) (c c':D),cs[m]? =some c->cs'[m]? =some c'->FrzTo Hf c c'
 | .row x el n es, .row h a l es'=>x=h/\el=a/\n=l/\es.length=es'.length/\(∀d∈es',d.kn=true/\d.cells.length=n)/\∀(m:Nat) (c c':D),es[m]? =some c->es'[m]? =some c'->∀(j:Nat) (e k:D),c.cells[j]? =some e->c'.cells[j]? =some k->FrzTo Hf e k
 | .tbox el b cs, .tbox a b' cs'=>el=a/\b=b'/\cs.length=cs'.length/\∀(m:Nat) (c c':D),cs[m]? =some c->cs'[m]? =some c'->FrzTo Hf c c'
 | .mrow x es, .mrow h es'=>x=h/\es.length=es'.length/\∀(m:Nat) (c c':D),es[m]? =some c->es'[m]? =some c'->FrzTo Hf c c'
 |r,r'=>r=r'
theorem RFz.blk{Hf:ab}{r r':Res}(h:RFz Hf r r'):r'.blk=r.blk:=by
 cases r<;>cases r'<;>simp only[RFz]at h
 all_goals simp_all [Res.blk]
theorem RFz.ok{tp I u:Nat->Prop}{w:World}{Hf:ab}{r r':Res}(h:RFz Hf r r')(a:ResOk (R tp I w) w r)(J:∀i q,Hf i=some q->ResOk (R tp I w) w q)(hI:∀b,I b->u b)(hb:∀i q b,Hf i=some q->q.blk=some b->u b):ResOk (R tp u w) w r':=by
 have fz:∀{c c':D} {y:Value},FrzTo Hf c c'->R tp I w y c->R tp u w y c':=λh a=>h.R (H:=cX) J hI hb a
 have same:ResOk (R tp u w) w r:=a.conv (λx d a=>a.mono (λ_ h=>h) (λb hb=>⟨hI b hb,rfl⟩) (λb _=> .refl _ _)) (λ_ _=>rfl);cases r with
 | box b cs=>
   cases r' with
   | box b' cs'=>
     obtain⟨rfl,hl,hc⟩:=h;obtain⟨xs,el,h1,h2,h3⟩:=a;refine⟨xs,el,h1,h2.trans hl,λk y c A t=>?_⟩;have hk:k<cs.length:=by grind
     have h4:=h3 k y cs[k] A (qBe hk);grind
   |row x el n es=>cases h
   |iter b s p=>cases h
   |tbox b s p=>cases h
   |mrow=>cases h
   |miter=>cases h
   |raw=>cases h
 | iter b s p=>
   cases r'<;>simp_all [RFz]
 | tbox b s p=>
   cases r' with
   |box b' cs'=>cases h
   |row x el n es=>cases h
   |iter b' L O=>cases h
   |mrow=>cases h
   |miter=>cases h
   |raw=>cases h
   | tbox b' L cs'=>
     obtain⟨rfl,rfl,hl,hc⟩:=h;obtain⟨xs,h1,h2,h3⟩:=a;refine⟨xs,h1,h2.trans hl,λk y c A t=>?_⟩;have hk:k<p.length:=by grind
     have h4:=h3 k y p[k] A (qBe hk);grind
 | row x el n es=>
   cases r' with
   |box b' cs'=>cases h
   |iter b' L O=>cases h
   |tbox b' L O=>cases h
   |mrow=>cases h
   |miter=>cases h
   |raw=>cases h
   | row W Y n' es'=>
     obtain⟨rfl,rfl,rfl,hl,C,hc⟩:=h;obtain⟨xs,h1,h2,h3⟩:=a;refine⟨xs,hl ▸h1,C,λk y c A t=>?_⟩;have Q:∀d∈es,d.cells.length=n:=λd M=>(h2 d M).2
     have N:∀d∈es',d.cells.length=n:=λd M=>(C d M).2
     have Z:=aR Q;have U:=aR N;have hk:k<(bk es).length:=by
      grind
     have hk2:k<es.length*n:=by omega
     have hn:0<n:=by
      grind
     have h4:=h3 k y (bk es)[k] A (qBe hk);refine⟨h4.1,fz ?_ h4.2⟩;have hdm:k=(k/n) *n+k % n:=by grind [ResOk,Nat.div_add_mod]
     have E:k % n<n:=qCw _ hn;have g1:=gG Q (i:=k/n) (j:=k % n) E;grind [FrzTo,ResOk,gG]
 | mrow x es=>
   cases r' with
   |box=>cases h
   |iter=>cases h
   |tbox=>cases h
   |row=>cases h
   |miter=>cases h
   |raw=>cases h
   | mrow W es'=>
     obtain⟨rfl,hl,hc⟩:=h;obtain⟨b,F,clock,rfl,h1,h2,h3⟩:=a;refine⟨b,F,clock,rfl,h1,h2,h3.1.trans hl,λk e c he t=>?_⟩;have hk:k<es.length:=by grind
     exact fz (hc k _ _ (qBe hk) t) (h3.2 k e _ he (qBe hk))
 | miter b c l=>
   cases r' with
   |box=>cases h
   |iter=>cases h
   |tbox=>cases h
   |row=>cases h
   |mrow=>cases h
   |raw=>cases h
   |miter=>cases h;omega
 | raw k=>
   cases r' with
   |box=>cases h
   |iter=>cases h
   |tbox=>cases h
   |row=>cases h
   |mrow=>cases h
   |miter=>cases h
   |raw k'=>cases h;omega
def RFe(Hf:ab)(r r':Res):Prop:=r=r'\/RFz Hf r r'
theorem RFe.blk{Hf:ab}{r r':Res}(h:RFe Hf r r'):r'.blk=r.blk:=by
 rcases h with rfl|h
 ·rfl
 ·exact h.blk
def RFe.ok{tp I c:Nat->Prop}{w:World}{Hf:ab}{r r':Res}(h:RFe Hf r r')(a:ResOk (R tp I w) w r)(j:∀i q,Hf i=some q->ResOk (R tp I w) w q)(hI:∀b,I b->c b)(hb:∀i q b,Hf i=some q->q.blk=some b->c b):ResOk (R tp c w) w r':=by
 rcases h with rfl|h
 ·exact a.conv (λx d a=>a.mono (λ_ h=>h) (λb hb=>⟨hI b hb,rfl⟩) (λb _=> .refl _ _)) (λ_ _=>rfl)
 ·exact h.ok a j hI hb
theorem isNilRow.blk'{r:Res}(h:isNilRow r):r.blk=none:=by
 cases r with
 |box b c=>exact h.elim
 |iter b s p=>exact h.elim
 |tbox b s p=>exact h.elim
 |mrow=>exact h.elim
 |miter=>exact h.elim
 |raw=>exact h.elim
 |row x el n es=>obtain⟨rfl,rfl⟩:=h;rfl
theorem Yv{σ M:Sg}{H H' Hf:ab}(ρ:Nat->Nat)(h1:∀t,FrzTo Hf (σ t) (M t))(h2:∀i r,H' i=some r->(∃u,H (ρ i)=some u/\RFe Hf u r)\/isNilRow r)
 (h3:∀i j r s,H' i=some r->H' j=some s->ρ i=ρ j->i=j\/isNilRow r\/isNilRow s) (h4:∀i r,Hf i=some r->H i=some r/\∀j r',H' j=some r'->ρ j=i->isNilRow r'):Wk σ H M H':=by
 intro E a w ⟨Y,Z,tp,h,Q⟩;have l:∀i r c,H' i=some r->r.blk=some c->∃u,H (ρ i)=some u/\u.blk=some c/\ ¬isNilRow r:=λi r c A F=>by
  have hn:¬isNilRow r:=λhn=>by grind [hn.blk']
  rcases h2 i r A with⟨u,k3,I⟩|k3;grind [I.blk];grind
 have J:∀c,bA H' c->bA H c:=λc ⟨i,r,A,F⟩=>by
  obtain⟨u,k3,I,_⟩:=l i r c A F;exact⟨ρ i,u,k3,I⟩
 have C:∀c,aW E.O tp H w c->aW E.O tp H' w c:=λc hb=>⟨hb.1,hb.2.1,hb.2.2.1,λho=>hb.2.2.2 (J c ho)⟩
 have L:∀i q,Hf i=some q->ResOk (R tp (aW E.O tp H w) w) w q:=λi q U=>h.sat.ok i q (h4 i q U).1
 have N:∀i q b,Hf i=some q->q.blk=some b->aW E.O tp H' w b:=λi q b U hb=>by
  obtain⟨A,F⟩:=h4 i q U;have ho:=h.sat.out i q b A hb;refine⟨(h.sat.ok i q A).lt hb,ho.1,ho.2,λ⟨j,s,k3,I⟩=>?_⟩;obtain⟨W,k5,k6,k7⟩:=l j s b k3 I;exact k7 (F j s k3 (h.sat.dis (ρ j) i W q b k5 A k6 hb))
 have move:∀x d,R tp (aW E.O tp H w) w x d->R tp (aW E.O tp H' w) w x d:=λx d Q=>
  Q.mono (λ_ h=>h) (λb hb=>⟨C b hb,rfl⟩) (λb _=> .refl _ _)
 refine⟨Y,Z,tp,⟨h.hO,h.tpx,h.tpn,h.tpl,h.step,λb hb=>h.loc b (J b hb),⟨λi j r s c A F k3 I=>?_,λi r c A F=>?_,λi r A=>?_⟩⟩,λt=>(h1 t).R (H:=cX) L C N (Q t)⟩
 ·obtain⟨u,a1,a2,a3⟩:=l i r c A k3;obtain⟨W,b1,b2,b3⟩:=l j s c F I;rcases h3 i j r s A F (h.sat.dis _ _ u W c a1 b1 a2 b2)with e|e|e
  all_goals grind
 ·obtain⟨u,a1,a2,_⟩:=l i r c A F;exact h.sat.out _ u c a1 a2
 ·rcases h2 i r A with⟨u,k3,I⟩|k3
  ·exact I.ok (h.sat.ok _ u k3) L C N
  ·cases r with
   |box b c=>exact k3.elim
   |iter b s p=>exact k3.elim
   |tbox b s p=>exact k3.elim
   |mrow=>exact k3.elim
   |miter=>exact k3.elim
   |raw=>exact k3.elim
   | row x el n es=>
     obtain⟨rfl,rfl⟩:=k3;exact⟨[],qCs _ _ _ _,by simp,λk y c h=>by grind⟩
def zD(Hf:ab):List (Nat×D)->Sg->Prop
 | [],_=>True
 |(t,d)::l,σ=>FrzTo Hf (σ t) d/\zD Hf l σ
@[simp] theorem qqq(Hf:ab)(σ:Sg):zD Hf [] σ=True:=i' rfl
@[simp] theorem qqr(Hf:ab)(t:Nat)(d:D)(l:List (Nat×D))(σ:Sg):zD Hf ((t,d)::l) σ=(FrzTo Hf (σ t) d/\zD Hf l σ):=i' rfl
def qd0(rn:List (Nat×Nat))(i:Nat):Nat:=(rn.lookup i).getD i
def wI(Hf:ab)(rn:List (Nat×Nat)):List (Nat×Res)->ab->Prop
 | [],_=>True
 |(i,r)::l,H=>((∃a,H (qd0 rn i)=some a/\RFe Hf a r)\/isNilRow r)/\wI Hf rn l H
@[simp] theorem qqo(Hf:ab)(rn:List (Nat×Nat))(H:ab):wI Hf rn [] H=True:=i' rfl
@[simp] theorem qqp(Hf:ab)(rn:List (Nat×Nat))(i:Nat)(r:Res)(l:List (Nat×Res))(H:ab):wI Hf rn ((i,r)::l) H=(((∃a,H (qd0 rn i)=some a/\RFe Hf a r)\/isNilRow r)/\wI Hf rn l H):=i' rfl
def qbv(a:List Nat)(H:ab):ab:=λi=>if i∈a then H i else none
def qov(rn:List (Nat×Nat))(ids a:List Nat):Prop:=(∀i∈ids,∀j∈ids,qd0 rn i=qd0 rn j->i=j)/\(∀i∈ids,qd0 rn i∉a)
instance (rn:List (Nat×Nat)) (ids a:List Nat):Decidable (qov rn ids a):=by unfold qov;infer_instance
def dB{l:List (Nat×Res)}{H:ab}{i:Nat}{r:Res}(h:gk l H i=some r):(i,r) ∈l\/(i∉l.map (·.1)/\H i=some r):=by
 induction l with
 |nil=>simp_all
 | cons p l a=>
   obtain⟨j,q⟩:=p;simp only[gk,ak]at h;grind
theorem Zx{Hf:ab}{rn:List (Nat×Nat)}{l:List (Nat×Res)}{H:ab}{i:Nat}{r:Res}(h:wI Hf rn l H)(hm:(i,r) ∈l):(∃a,H (qd0 rn i)=some a/\RFe Hf a r)\/isNilRow r:=by
 induction l<;>grind [wI]
theorem HG{b σ:Sg}{l H:ab}{ks hk c:List Nat}{rn:List (Nat×Nat)}{k:List (Nat×D)}{hp:List (Nat×Res)}(hi:qov rn (hp.map (·.1) ++hk) c)(hid:∀i∈hk,i∉hp.map (·.1)->qd0 rn i=i)
 (h1:zD (qbv c H) k σ) (h2:vw ks b σ) (h3:wI (qbv c H) rn hp H) (h4:zV hk l H):Wk σ H (rC k (iF ks b)) (gk hp (iG hk l)):=by
 have a:∀i r,gk hp (iG hk l) i=some r->i∈hp.map (·.1) ++hk:=λi r h=>by
  rcases dB h with h|⟨_,h⟩;grind;grind [Nc]
 refine Yv (Hf:=qbv c H) (qd0 rn) (λt=>?_) (λi r h=>?_) (λi j r s q u e=> .inl (hi.1 i (a i r q) j (a j s u) e)) (λi r h=>?_)
 ·clear hi hid h3 a
  induction k with
  | nil=>
    rw[qad,Nb];grind [FrzTo,vw]
  | cons p k w=>
    obtain⟨s,d⟩:=p;simp only[rC,upd];grind [zD]
 ·rcases dB h with h|⟨h5,h⟩;grind [Zx]
  ·rw[Nc]at h;split at h
   ·rename_i e;rw[hid i e h5,h4 i e];exact .inl ⟨r,h, .inl rfl⟩
   grind
 grind [qov,qbv]
@[simp] theorem qzj(i:Nat):qd0 [] i=i:=i' rfl
def FzL(Hf:ab):List D->List D->Prop
 | [], []=>True
 |a::l,b::r=>FrzTo Hf a b/\FzL Hf l r
 | _,_=>False
@[simp] theorem qzI(Hf:ab):FzL Hf [] []=True:=i' rfl
@[simp] theorem qzJ(Hf:ab)(a b:D)(l r:List D):FzL Hf (a::l) (b::r)=(FrzTo Hf a b/\FzL Hf l r):=i' rfl
def FzL.get{Hf:ab} :∀{l r:List D},FzL Hf l r->l.length=r.length/\∀(m:Nat) (c c':D),l[m]? =some c->r[m]? =some c'->FrzTo Hf c c'
 | [], [],_=>⟨rfl,λm c c' h=>by simp⟩
 | a::l,b::r,h=>by
   obtain⟨h1,h2⟩:=h;have d:=FzL.get h2;grind
@[simp] theorem qto(Hf:ab)(b:Nat)(cs cs':List D):RFe Hf (.box b cs) (.box b cs')=(cs=cs'\/FzL Hf cs cs'):=by
 refine propext ⟨λh=>?_,λh=>?_⟩
 ·rcases h with h|⟨_,hl,hc⟩
  ·cases h;exact .inl rfl
  ·right
   induction cs generalizing cs' with
   | nil=>cases cs' with
     |nil=>trivial
     |cons b r=>simp at hl
   | cons a l d=>cases cs' with
     |nil=>simp at hl
     |cons b r=>exact⟨hc 0 a b rfl rfl,d r (by simpa using hl) λm c c' h1 h2=>hc (m+1) c c' (by simpa using h1) (by simpa using h2)⟩
 ·rcases h with rfl|h
  ·exact .inl rfl
  ·exact .inr ⟨rfl,h.get.1,h.get.2⟩
def qcd(a:Sg)(c:ab)(ks hk b:List Nat)(rn:List (Nat×Nat))(d:List (Nat×D))(hp:List (Nat×Res))(σ:Sg)(H:ab):Prop:=zD (qbv b H) d σ/\vw ks a σ/\wI (qbv b H) rn hp H/\zV hk c H
@[simp] theorem qr5(a:Sg)(c:ab)(ks hk b:List Nat)(rn:List (Nat×Nat))(d:List (Nat×D))(hp:List (Nat×Res))(σ:Sg)(H:ab):qcd a c ks hk b rn d hp σ H=(zD (qbv b H) d σ/\vw ks a σ/\wI (qbv b H) rn hp H/\zV hk c H):=i' rfl
section
variable {S:Nat->Spc}{σ:Sg}{H:ab}{K:Ex->Sg->ab->Prop}
def kD{X:Type}(ks hk d:List Nat)(rn:List (Nat×Nat))(P:X->Prop)(j:X->List (Nat×D))(hp:X->List (Nat×Res)){k:Nat}{a b:CC}(ids:List Nat)(l:∀x,(hp x).map (·.1)=ids)(hi:qov rn (ids++hk) d/\∀i∈hk,i∉ids->qd0 rn i=i)
 (p:vc S a (Zw (λc H'=>∃x,P x/\qcd σ H ks hk d rn (j x) (hp x) c H') K) σ H)
 (hb:∀x,P x->vc S b K (rC (j x) (iF ks σ)) (gk (hp x) (iG hk H))):vc S (Y9 k a b) K σ H:=by
 refine qiW P _ _ (xS a _ _ (λe c H' h=>?_) p) hb;cases e<;>grind [Zw,qcd,HG]
end
end
end Go.Gv
