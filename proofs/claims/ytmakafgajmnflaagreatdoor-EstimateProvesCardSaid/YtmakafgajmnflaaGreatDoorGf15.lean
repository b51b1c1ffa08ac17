/- W152 -/
import Derived.Test.YtmakafgajmnflaaGreatDoorGf14
set_option linter.all false
set_option maxRecDepth 100000
set_option maxHeartbeats 0
open Bool renaming forall_bool → fB', exists_bool → eB'
namespace Go.Gv
section
open Cod (enc dec)
variable {S S0:Nat->Spc}
def BJ{X:Type}(p:X->Bool):∀l:List X, -1<=ij l p/\ij l p<l.length
 | []=>⟨qDe _,by simp[ij]⟩
 | x::l=>by
   have:=BJ p l;rw[ij,qCZ];split
   ·omega
   ·split<;>omega
open Classical in
noncomputable def aX{Z:Type}(v:Z->List D)(hi:∀z z',v z=v z'->z=z'):dN Z:=⟨λds=>if h:∃z,ds=v z then some h.choose else none,v,λds z h=>by
 split at h
 ·rename_i h';have e:h'.choose=z:=qCr h;rw[<-e,<-h'.choose_spec];exact⟨rfl,λk d d' h1 h2=>by rw[h1]at h2;cases h2;exact .same _⟩
 ·cases h⟩
open Classical in
def EV{Z:Type}(v:Z->List D)(hi:∀z z',v z=v z'->z=z')(z:Z):(aX v hi).dec (v z)=some z:=by
 have h:∃z',v z=v z':=⟨z,rfl⟩
 show(if h:∃z',v z=v z' then some h.choose else none)=some z;rw[dif_pos h];exact congrArg some (hi _ _ h.choose_spec).symm
def CK{Z:Type}(v:Z->List D)(hi:∀z a,v z=v a->z=a)(z:Z):(aX v hi).view z=v z:=rfl
def qcm(x:Attr×B):List D:=[enc x.1, .cptr [enc x.2] 0]
def Ux(z b:Attr×B)(h:qcm z=qcm b):z=b:=by
 obtain⟨a,s⟩:=z;obtain⟨c,d⟩:=b;unfold qcm at h;simp only[qCL,D.cptr.injEq,and_true]at h;rw[bi h.1,bi h.2]
noncomputable abbrev qsS:dN (Attr×B):=aX qcm Ux
noncomputable abbrev RV:Spc:=aJ qsS (λ_=>True) (enc (X:=Bool)) λx y=>y=decide (x.1.nm=x.2)
def xJ:aq gC gm S qsS (λ_=>True) (enc (X:=Bool)) λx y=>y=decide (x.1.nm=x.2):=by
 rintro⟨a,s⟩ -;rw[CK];simp[qcm,gC,gm,-fB',-eB']
abbrev Cr:Spc:=aJ (a2 (List Attr) B) (λ_=>True) (enc (X:=Int)) λx y=>y=lH x.1 x.2
def AG(h0:S0 bX=RV)(h1:S eT=VB Attr S0):aq iR iA S (a2 (List Attr) B) (λ_=>True) (enc (X:=Int)) λx y=>y=lH x.1 x.2:=by
 rintro⟨a,s⟩ -;have c:FunOn S0 (.clo bX [.cptr [enc s] 0]) a λx=>decide (x.nm=s):=
  uc (f:=λx=>(x,s)) h0 (λx _=>EV qcm Ux (x,s)) (λ_ _=>trivial) (λx _ y b=>b)
 simp[iR,iA,h1,-fB',-eB'];exact⟨⟨_,c⟩,λy b=>b _ c⟩
abbrev Mk:Spc:=aJ (a2 (List Attr) B) (λx=>x.1.length<=1000) (enc (X:=Int)) λx y=>y=zF x.1 x.2
def Fm(h1:S bQ=Cr):aq iQ iz S (a2 (List Attr) B) (λx=>x.1.length<=1000) (enc (X:=Int)) λx y=>y=zF x.1 x.2:=by
 rintro⟨a,s⟩ hl;have hl:a.length<=1000:=hl;have b:InR .i64 ((a.length:Int) -1):=by simp only[InR];omega
 have c:(a.length:Int)<=9223372036854775807:=by omega
 by_cases hs:s=ll
 ·subst hs;simp[iQ,iz,ll,zF,b,c,-fB',-eB']
 ·have d:¬s=⟨#[]⟩:=hs;simp[iQ,iz,ll,zF,h1,d,-fB',-eB']
def vN(t:List (List B))(i k:Int):B:=if i< 0\/k< 0 then ll else match t[i.toNat]? with
 |some r=>(match r[k.toNat]? with|some s=>s|none=>ll)
 |none=>ll
abbrev Vw:Spc:=aJ (a3 Corpus Int Int) (λx=>x.1.toks.length<=100000/\∀r∈x.1.toks,r.length<=100000) (enc (X:=B)) λx y=>y=vN x.1.toks x.2.1 x.2.2
theorem Fp:aq cp cb S (a3 Corpus Int Int) (λx=>x.1.toks.length<=100000/\∀r∈x.1.toks,r.length<=100000) (enc (X:=B)) λx y=>y=vN x.1.toks x.2.1 x.2.2:=by
 rintro⟨c,i,k⟩ ⟨hl,p⟩;simp only at hl p;have a:(c.toks.length:Int)<=9223372036854775807:=by omega
 by_cases h0:i< 0
 ·simp[cp,cb,h0,vN,-fB',-eB'];rfl
 by_cases h1:(c.toks.length:Int)<=i
 ·have hn:c.toks[i.toNat]? =none:=qCz (by omega);by_cases h2:k< 0
  ·simp[cp,cb,h0,h1,h2,a,vN,-fB',-eB'];rfl
  ·simp[cp,cb,h0,h1,h2,a,hn,vN,-fB',-eB'];rfl
 by_cases h2:k< 0
 ·simp[cp,cb,h0,h1,h2,a,vN,-fB',-eB'];rfl
 obtain⟨r,b⟩:=nr (show i.toNat<c.toks.length by omega);obtain⟨_,h⟩:=qCd.1 b;have u:=p r (qCg b);have d:(r.length:Int)<=9223372036854775807:=by omega
 have q:0<=i:=by omega
 have t:i<(c.toks.length:Int):=by omega
 have w:0<=k:=by omega
 by_cases h3:(r.length:Int)<=k
 ·have hn:r[k.toNat]? =none:=qCz (by omega);simp[cp,cb,h0,h1,h2,h3,a,d,hn,b,h,q,t,vN,-fB',-eB'];rfl
 obtain⟨s,j⟩:=nr (show k.toNat<r.length by omega);obtain⟨_,l⟩:=qCd.1 j;have A:k<(r.length:Int):=by omega
 simp[cp,cb,h0,h1,h2,h3,a,d,b,h,j,l,q,t,w,A,vN,-fB',-eB']
abbrev qai:Spc:=aJ (a1 B) (λs=>It s=true) (enc (X:=Bool)) λ_ y=>y=true
abbrev H4:Spc:=aJ (a1 B) (λs=>BE s=true) (enc (X:=Int)) λ_ y=>y=0
abbrev s_sConB:Spc:=aJ (a2 B B) (λx=>x.2=⟨#[124]⟩/\BE x.1=true) (enc (X:=Bool)) λx y=>y=qlt x.1
abbrev qfj:Spc:=aJ (a1 B) (λs=>∃r,ox s=some r) (enc (X:=Int)) λ_ y=>y=0
def tq(l:List B)(s:B):Bool:=l.any λz=>decide (z=s)
abbrev YP:Spc:=aJ (a2 (List B) B) (λ_=>True) (enc (X:=Bool)) λx y=>y=tq x.1 x.2
abbrev Mi:Spc:=aJ (a2 (List B) B) (λ_=>True) (enc (X:=Int)) λx y=>y=ij x.1 λz=>decide (z=x.2)
theorem LK:aq iJ iq S (a2 (List B) B) (λ_=>True) (enc (X:=Int)) λx y=>y=ij x.1 λz=>decide (z=x.2):=by
 rintro⟨l,s⟩ -;simp[iJ,iq,-fB',-eB'];intro _;refine ah (X:=Unit) [0,1] [] l.length (λk _=>∀x∈l.take k,decide (x=s)=false) (λ_=>[]) (λ_=>[]) () (by simp) ?_ ?_
 ·intro k _ hk a;obtain⟨x,b⟩:=nr hk;obtain⟨_,c⟩:=qCd.1 b;simp[hk,b,c,-fB',-eB'];refine⟨λh=>?_,λh=>?_⟩
  ·exact(vZ b (by simp[h]) a).symm
  ·rw[aB b];intro z hz;rcases qCk.1 hz with hz|hz
   ·have:=a z hz;simpa using this
   ·simp at hz;subst hz;exactλe=>h e.symm
 ·intro _ a;simp[-fB',-eB'];exact(nE (by simpa using a)).symm
def Ft(h1:S cO=Mi):aq cE cD S (a2 (List B) B) (λ_=>True) (enc (X:=Bool)) λx y=>y=tq x.1 x.2:=by
 rintro⟨l,s⟩ -;simp[cE,cD,h1,-fB',-eB'];exact vY _ l
abbrev Vp:Spc:=aJ (a2 Cond (List Attr)) (λx=>qmd x.2 x.1=true/\x.2.length<=1000) (enc (X:=Bool)) λ_ y=>y=true
theorem Fj(h1:S jV=Mk)(h2:S bQ=Cr)(h3:S bJ=qai):aq cn ca S (a2 Cond (List Attr)) (λx=>qmd x.2 x.1=true/\x.2.length<=1000) (enc (X:=Bool)) λ_ y=>y=true:=by
 rintro⟨⟨op,name,arg,val,lab,fold,ks⟩,a⟩ ⟨b,hl⟩;have b:qmd a ⟨op,name,arg,val,lab,fold,ks⟩=true:=b;have hl:a.length<=1000:=hl;unfold qmd at b;simp only at b;split at b
 ·rename_i e;subst e;simp at b;simp[cn,ca,h1,hl,b,-fB',-eB']
 rename_i j;split at b
 ·rename_i e;subst e;simp at b;simp[cn,ca,h2,b,-fB',-eB']
 rename_i k;split at b
 ·rename_i e;subst e;simp at b;simp[cn,ca,h2,b.1,b.2,-fB',-eB']
 rename_i l;split at b
 ·rename_i e;subst e;simp at b;obtain⟨hn,p⟩:=b;by_cases c:arg=ll
  ·subst c;simp[cn,ca,h3,hn,ll,-fB',-eB']
  ·have h:=p.resolve_left c;have d:¬arg=⟨#[]⟩:=c;simp[cn,ca,h3,hn,h,d,-fB',-eB']
 rename_i q;simp[cn,ca,j,k,l,q,-fB',-eB']
abbrev Vv:Spc:=aJ (a3 Cond (List Attr) (List B)) (λx=>sI x.2.1 x.2.2 x.1=true/\x.2.1.length<=1000) (enc (X:=Int)) λ_ y=>y=0
theorem Fo(h1:S pn=PY)(h2:S pp=Vp)(h3:S rH=qfj)(h4:S bQ=Cr)(h5:S uP=s_sConB)(h6:S cG=H4)(l:S aU=YP):
 aq da cZ S (a3 Cond (List Attr) (List B)) (λx=>sI x.2.1 x.2.2 x.1=true/\x.2.1.length<=1000) (enc (X:=Int)) λ_ y=>y=0:=by
 rintro⟨x,a,lb⟩ ⟨c,hl⟩;have c:sI a lb x=true:=c;have hl:a.length<=1000:=hl;unfold sI at c;simp only[qCi]at c;obtain⟨⟨hs,hn⟩,hc⟩:=c;obtain⟨op,name,arg,val,lab,fold,ks⟩:=x;unfold qvP at hc;simp only at hc;have e:(Cond.mk op name arg val lab fold ks)=⟨op,name,arg,val,lab,fold,ks⟩:=rfl;split at hc
 ·rename_i e;subst e;obtain⟨r,p⟩:=qDa.1 hc;simp[da,cZ,h1,h2,h3,hs,hn,hl,p,-fB',-eB']
 rename_i q;split at hc
 ·rename_i e;subst e;simp only[qCi]at hc;obtain⟨⟨⟨c1,c2⟩,c3⟩,c4⟩:=hc;have d:0<=lH a name:=by simpa [qmd]using hn
  have h:=(BJ (λx:Attr=>decide (x.nm=name)) a).2;have j:lH a name<a.length:=h;obtain⟨b,hb⟩:=nr (show(lH a name).toNat<a.length by omega);obtain⟨_,k⟩:=qCd.1 hb;rw[hb]at c1;have c1:b.st=true:=c1;have c2:¬val=⟨#[]⟩:=of_decide_eq_true c2;have c3:qlt val=false:=by simpa using c3
  simp[da,cZ,h1,h2,h4,h5,h6,hs,hn,hl,d,j,hb,k,c1,c2,c3,c4,-fB',-eB']
 rename_i s;split at hc
 ·rename_i e;subst e;have hc:tq lb lab=true:=hc;simp[da,cZ,h1,h2,l,hs,hn,hl,hc,-fB',-eB']
 rename_i t;split at hc
 ·rename_i e;subst e;simp[da,cZ,h1,h2,h6,hs,hn,hl,hc,-fB',-eB']
 rename_i u;simp[da,cZ,h1,h2,hs,hn,hl,q,s,t,u,-fB',-eB']
end
section
open Go.Proofs
def pN:CC:=oX [oB 2 (.mv (.const ob))] [0] [] (oX [oA 3 0,oB 4 (.cmp .geq (oT 3) (.const (.int .u8 65))),oA 5 4,oH 6 5 (.mv (oT 0)),oH 7 5 (.cmp .leq (oT 6) (.const (.int .u8 90))),oB 8 (.pick (oT 5) (oT 7) (.const ob)),oA 9 8,oI 10 9 (.mv (oT 0)),oI 11 9 (.cmp .geq (oT 10) (.const (.int .u8 97))),oI 12 9 (.mv (oT 11)),oH 13 12 (.mv (oT 0)),
 oH 14 12 (.cmp .leq (oT 13) (.const (.int .u8 122))),oI 15 9 (.pick (oT 12) (oT 14) (.const ob)),oB 16 (.pick (oT 9) (.const (.bool true)) (oT 15)),oA 17 16,oI 18 17 (.mv (oT 0)),oI 19 17 (.eql false false [.int] (oT 18) (.const (.int .u8 95))),oB 20 (.pick (oT 17) (.const (.bool true)) (oT 19)),oA 2 20] [2] [] (.ret))
def oh:List ak:=[.tmp 2]
def pM:CC:=oX [oB 2 (.mv (.const ob))] [0] [] (oX [oA 3 0,oZ 4 ct [oT 3],oA 5 4,oI 6 5 (.mv (oT 0)),oI 7 5 (.cmp .geq (oT 6) (.const (.int .u8 48))),oI 8 5 (.mv (oT 7)),oH 9 8 (.mv (oT 0)),oH 10 8 (.cmp .leq (oT 9) (.const (.int .u8 57))),oI 11 5 (.pick (oT 8) (oT 10) (.const ob)),oB 12 (.pick (oT 5) (.const (.bool true)) (oT 11)),oA 13 12,
 oI 14 13 (.mv (oT 0)),oI 15 13 (.eql false false [.int] (oT 14) (.const (.int .u8 45))),oB 16 (.pick (oT 13) (.const (.bool true)) (oT 15)),oA 2 16] [2] [] (.ret))
def od:List ak:=[.tmp 2]
def kX:CC:=oX [oB 2 (.mv (.const ob))] [0] [] (.seq (oX [oA 4 0,oB 5 (.slen (oT 4)),oB 6 (.cmp .lss (oT 5) (oN 1)),oA 7 6,oI 8 7 (.mv (oT 0)),oI 9 7 (.slen (oT 8)),oI 10 7 (.cmp .gtr (oT 9) (oN 32)),oB 11 (.pick (oT 7) (.const (.bool true)) (oT 10)),oA 12 11,oI 13 12 (.mv (oT 0)),oI 14 12 (.sidx (oT 13) (oN 0)),oI 15 12 (.call ct [oT 14]),
 oI 16 12 (.not (oT 15)),oB 17 (.pick (oT 12) (.const (.bool true)) (oT 16))] [0,17] [] (.ite (oT 17) (oX [oB 2 (.mv (.const ob))] [2] [] (.ret)) (.skip))) (.keep [0] [] (.seq (oX [oA 18 0,oB 19 (.slen (oT 18)),oB 20 (.mv (oN 0))] [0,19,20] [] (gH 0 20 19 21 1 (oX [oA 22 20,oA 3 22] [0,3,19,20] [] (oX [oA 23 0,oA 24 3,oB 25 (.sidx (oT 23) (oT 24)),oZ 26 eV [oT 25],
 oB 27 (.not (oT 26))] [0,19,20,27] [] (.ite (oT 27) (oX [oB 2 (.mv (.const ob))] [2] [] (.ret)) (.skip)))) 28)) (.keep [] [] (oX [oB 2 (.mv (.const (.bool true)))] [2] [] (.ret))))))
def kw:List ak:=[.tmp 2]
def kW:CC:=gq Tryz.f151 [] {} _
def ku:List ak:=[.tmp 2]
def Bv:FO cG [] kW ku 24:=fo
def mg:CC:=gq Tryz.f156 [] {} _
def lN:List ak:=[.tmp 4]
def C0:FO mZ [] mg lN 17:=fo
def vF:CC:=gq Tryz.f96 [] {} _
def uG:List ak:=[.tmp 4]
def MX:FO wZ [] vF uG 19:=fo
def cB:CC:=gq Tryz.f155 [] {} _
def cz:List ak:=[.tmp 2, .tmp 3]
def Iq:FO sQ [] cB cz 71:=fo
open Cod (enc dec)
variable {S S0:Nat->Spc}
def TD(c:Int):Bool:=(decide (65<=c) && decide (c<=90))||(decide (97<=c) && decide (c<=122))||decide (c=95)
def qpX(c:Int):Bool:=TD c||(decide (48<=c) && decide (c<=57))||decide (c=45)
abbrev qfo:Spc:=aJ (a1 U8) (λ_=>True) (enc (X:=Bool)) λc y=>y=TD c.val
def HJ:aq pN oh S (a1 U8) (λ_=>True) (enc (X:=Bool)) λc y=>y=TD c.val:=by
 rintro⟨c⟩ -;by_cases h1:(65:Int)<=c<;>by_cases h2:c<=90<;>by_cases h3:(97:Int)<=c<;>by_cases h4:c<=122<;>by_cases h5:c=95<;>
  simp[pN,oh,TD,h1,h2,h3,h4,h5,-fB',-eB']
abbrev PX:Spc:=aJ (a1 U8) (λ_=>True) (enc (X:=Bool)) λc y=>y=qpX c.val
def HI(h0:S ct=qfo):aq pM od S (a1 U8) (λ_=>True) (enc (X:=Bool)) λc y=>y=qpX c.val:=by
 rintro⟨c⟩ -;cases hb:TD c<;>by_cases h1:(48:Int)<=c<;>by_cases h2:c<=57<;>by_cases h3:c=45<;>
  simp[pM,od,qpX,h0,hb,h1,h2,h3,-fB',-eB']
def qhY(c:UInt8):qbL c=TD (c.toNat:Int):=by
 unfold qbL TD;rw[qCS];simp;omega
def qrO(c:UInt8):qyo c=qpX (c.toNat:Int):=by
 unfold qyo qpX;rw[qhY];cases TD (c.toNat:Int)
 ·rw[qCS];simp;omega
 ·simp
theorem CU(h1:S ct=qfo)(h2:S eV=PX):aq kX kw S (a1 B) (λs=>It s=true) (enc (X:=Bool)) λ_ y=>y=true:=by
 rintro s hs;have hs:It s=true:=hs;unfold It at hs;simp only[qCi,decide_eq_true_eq]at hs;obtain⟨⟨⟨w,x⟩,j⟩,q⟩:=hs;simp[kX,kw,h1,h2,-fB',-eB'];have r:(1:Int)<=(s.size:Int):=by omega
 have t:(s.size:Int)<=32:=by omega
 have A:(s.size:Int)<=9223372036854775807:=by omega
 have hsl:s.data.toList.length=s.size:=qC3;refineλ_=>⟨λ_ _=>⟨λ_=>⟨by omega,λc hc=>?_⟩,t⟩,r⟩
 have a:s.data.toList[0]? =some c:=by rw[qCA];exact hc
 have hb:TD (c.toNat:Int)=true:=by
  rw[<-qhY];cases hl:s.data.toList with
  |nil=>rw[hl]at a;cases a
  | cons d l=>
    rw[hl]at a j;cases a;exact j
 refine⟨hb,λ_ _=>?_⟩;refine ah (X:=Unit) [0] [] s.size (λ_ _=>True) (λ_=>[]) (λ_=>[]) () trivial ?_ ?_
 ·rintro k -hk -;obtain⟨d,p⟩:=nr (show k<s.data.toList.length by omega);have u:qpX (d.toNat:Int)=true:=by rw[<-qrO];exact qCl.1 q d (qCg p)
  have b:s.data[k]? =some d:=by rw[<-qCA];exact p
  obtain⟨_,h⟩:=qCp.1 b;simp[hk,b,h,u,h2,-fB',-eB']
 ·rintro - -;simp[-fB',-eB']
theorem CT(h1:S pu=s_cpVal):aq kW ku S (a1 B) (λs=>BE s=true) (enc (X:=Int)) λ_ y=>y=0:=by
 rintro s hs;have hs:BE s=true:=hs;unfold BE at hs;simp only[qCi,decide_eq_true_eq]at hs;obtain⟨C,l⟩:=hs;have q:Ak s=true:=by
  unfold Ak;refine qCl.2 λc hc=>?_
  have:=qCl.1 l c hc;simp at this;simp;omega
 have r:(s.size:Int)<=120:=by omega
 have t:(s.size:Int)<=9223372036854775807:=by omega
 have u:s.size<=1000:=by omega
 have w:¬(120:Int)<(s.size:Int):=by omega
 simp[kW,ku,h1,q,r,t,u,w,-fB',-eB'];intro b;refine aA (X:=Nat) [] [] (λp=>p<=s.size) (λp=>[(14, .bptr 14 b 0)]) (λp=>[(14, .iter b s p)]) (λp=>s.size -p) 0 (qCC _) ?_;rintro p hp;by_cases a:p<s.size
 ·obtain⟨c,hc,h,d⟩:=QT q a;have j:=qCl.1 l c (qCg hc);simp at j;have x:¬(c.toNat:Int)<=31:=by omega
  have A:¬(c.toNat:Int)=127:=by omega
  simp[a,d,x,A,-fB',-eB'];exact⟨p+1,by omega, .inl rfl,by omega⟩
 ·have k:p=s.size:=by omega
  subst k;simp[-fB',-eB']
def qlO(x:Cond×List Attr×List B):List D:=[enc x.1, .cptr [enc x.2.1] 0, .cptr [enc x.2.2] 0]
def Z6(z b:Cond×List Attr×List B)(h:qlO z=qlO b):z=b:=by
 obtain⟨a,s,l⟩:=z;obtain⟨c,d,l'⟩:=b;unfold qlO at h;simp only[qCL,D.cptr.injEq,and_true]at h;rw[bi h.1,bi h.2.1,bi h.2.2]
noncomputable abbrev aVd:dN (Cond×List Attr×List B):=aX qlO Z6
@[simp] theorem qtt(x:Cond)(a:List Attr)(lb:List B):aVd.dec [.agg [.v (.int .i64 x.op), .v (.string x.name), .v (.string x.arg), .v (.string x.val), .v (.string x.lab), .v (.bool x.fold), .list 7 (x.kids.map enc)], .cptr [.list 2 (a.map enc)] 0, .cptr [.list 1 (lb.map enc)] 0]=some (x,a,lb):=by
 have h:=EV qlO Z6 (x,a,lb);have e:qlO (x,a,lb)=[.agg [.v (.int .i64 x.op), .v (.string x.name), .v (.string x.arg), .v (.string x.val), .v (.string x.lab), .v (.bool x.fold), .list 7 (x.kids.map enc)], .cptr [.list 2 (a.map enc)] 0, .cptr [.list 1 (lb.map enc)] 0]:=by simp[qlO]
 rw[<-e];exact h
noncomputable abbrev qaz:Spc:=aJ aVd (λx=>sI x.2.1 x.2.2 x.1=true/\x.2.1.length<=1000) (enc (X:=Int)) λ_ y=>y=0
def yD(h1:S pq=Vv):aq ig gS S aVd (λx=>sI x.2.1 x.2.2 x.1=true/\x.2.1.length<=1000) (enc (X:=Int)) λ_ y=>y=0:=by
 rintro⟨x,a,lb⟩ ⟨b,hl⟩;simp only at b hl;rw[CK];simp[qlO,ig,gS,h1,b,hl,-fB',-eB']
def qsY(n:Nat)(x:Cond×D×Unit):Prop:=∃(a:List Attr) (lb:List B),x.2.1= .clo cA [.cptr [enc a] 0, .cptr [enc lb] 0]/\rW a lb n x.1=true/\a.length<=1000/\iX x.1<=60
noncomputable abbrev Vm(n:Nat):Spc:=aJ (aE Cond (aD a0)) (qsY n) (enc (X:=Int)) λx y=>y=0
noncomputable abbrev Vl:Spc:=aJ (aE Cond (aD a0)) (λx=>∃n,qsY n x) (enc (X:=Int)) λx y=>y=0
theorem Fi(n:Nat)(h1:S cA=qaz)(h2:S gY=Vm n):aq pV ou S (aE Cond (aD a0)) (qsY (n+1)) (enc (X:=Int)) λx y=>y=0:=by
 rintro⟨x,d,⟨⟩⟩ ⟨a,lb,p,b,hl,hn⟩;simp only at p b hn;subst p;simp only[rW,qCi]at b;obtain⟨c,h⟩:=b;simp[pV,ou,h1,c,hl,-fB',-eB'];intro q;refine ah (X:=Unit) [1,16] [] x.kids.length (λk _=>True) (λ_=>[]) (λ_=>[]) () (by simp) ?_ ?_
 ·rintro k -hk -;obtain⟨y,j⟩:=nr hk;obtain⟨_,l⟩:=qCd.1 j;have hm:=qCg j;have r:=Iw hm;have s:=zt x;have hp:qsY n (y, .clo cA [.cptr [.list 2 (a.map enc)] 0, .cptr [.list 1 (lb.map enc)] 0],()):=⟨a,lb,rfl,qCl.1 h y hm,hl,by show iX y<=60;omega⟩
  simp[h2,hk,j,l,hp,-fB',-eB']
 ·rintro - -;simp[-fB',-eB']
abbrev ZS(x:Cond×List Attr×List B):Prop:=qka x.2.1 x.2.2 x.1=true/\x.2.1.length<=1000
abbrev YR:Spc:=aJ (a3 Cond (List Attr) (List B)) ZS (enc (X:=Int)) λ_ y=>y=0
def A3(h1:S cH=Mj)(h2:S gY=Vl):aq jE js S (a3 Cond (List Attr) (List B)) ZS (enc (X:=Int)) λ_ y=>y=0:=by
 rintro⟨x,a,lb⟩ ⟨b,hl⟩;simp only at b hl;unfold qka at b;simp at b;obtain⟨⟨hn,k⟩,c⟩:=b;have hp:∃n,qql n (x,0,1):=⟨dE x,qCj _,qDe _,by show(0:Int) +iX x<=60;omega,by show(0:Int)<=1;omega,by show(1:Int) +dE x<=1000;omega,by show dE x<=60;omega⟩
 have d:∃n,qsY n (x, .clo cA [.cptr [.list 2 (a.map enc)] 0, .cptr [.list 1 (lb.map enc)] 0],()):=⟨20,a,lb,rfl,c,hl,hn⟩
 have h:¬(60:Int)<(iX x:Int):=by omega
 have j:¬(20:Int)< 1+ (dE x:Int) -1:=by omega
 simp[jE,js,h1,h2,hp,d,h,j,-fB',-eB']
def qgy(l:List Pair)(s:Pair):Bool:=l.any λz=>decide (z=s)
abbrev qar:Spc:=aJ (a2 (List Pair) Pair) (λ_=>True) (enc (X:=Int)) λx y=>y=ij x.1 λz=>decide (z=x.2)
abbrev qav:Spc:=aJ (a2 (List Pair) Pair) (λ_=>True) (enc (X:=Bool)) λx y=>y=qgy x.1 x.2
theorem Rr:aq kS kj S (a2 (List Pair) Pair) (λ_=>True) (enc (X:=Int)) λx y=>y=ij x.1 λz=>decide (z=x.2):=by
 rintro⟨l,s⟩ -;simp[kS,kj,-fB',-eB'];intro _;refine ah (X:=Unit) [0,3] [] l.length (λk _=>∀x∈l.take k,decide (x=s)=false) (λ_=>[]) (λ_=>[]) () (by simp) ?_ ?_
 ·intro k _ hk c;obtain⟨x,d⟩:=nr hk;obtain⟨_,j⟩:=qCd.1 d;simp[hk,d,j,-fB',-eB'];have p:s.nm=x.nm->s.vl=x.vl->x=s:=λh1 h2=>by
   obtain⟨a,b⟩:=x;obtain⟨q,b'⟩:=s;simp only at h1 h2;rw[h1,h2]
  refine⟨λh1 h2=>(vZ d (by simp[p h1 h2]) c).symm,λh=>?_⟩;rw[aB d];intro z hz;rcases qCk.1 hz with hz|hz
  ·have:=c z hz;simpa using this
  ·simp at hz;subst hz;intro e;subst e;exact h rfl rfl
 ·intro _ c;simp[-fB',-eB'];exact(nE (by simpa using c)).symm
def Kg(h1:S lT=qar):aq hU gM S (a2 (List Pair) Pair) (λ_=>True) (enc (X:=Bool)) λx y=>y=qgy x.1 x.2:=by
 rintro⟨l,s⟩ -;simp[hU,gM,h1,-fB',-eB'];exact vY _ l
def Mv(x:Cond)(tok:Int)(r:Region):Bool:=decide (r.ty=x.name) && decide (r.b<=tok) && decide (tok<r.e) && (decide (x.arg=ll)||qgy r.kv ⟨x.arg,x.val⟩)
def qd7(x:Cond):List D:=[.v (.int .i64 x.op), .v (.string x.name), .v (.string x.arg), .v (.string x.val), .v (.string x.lab), .v (.bool x.fold), .list 7 (x.kids.map enc)]
def qbG(x:Cond): .agg (qd7 x)=enc x:=by simp[qd7]
def qlk{x y:Cond}(h:qd7 x=qd7 y):x=y:=bi (by rw[<-qbG,<-qbG,h])
def qiO(x:Region×Cond×Int):List D:=[enc x.1, .cptr (qd7 x.2.1) 0, .cptr [enc x.2.2] 0]
def Z7(z b:Region×Cond×Int)(h:qiO z=qiO b):z=b:=by
 obtain⟨a,s,l⟩:=z;obtain⟨c,d,l'⟩:=b;unfold qiO at h;simp only[qCL,D.cptr.injEq,and_true]at h;rw[bi h.1,qlk h.2.1,bi h.2.2]
noncomputable abbrev qBm:dN (Region×Cond×Int):=aX qiO Z7
noncomputable abbrev F0:Spc:=aJ qBm (λ_=>True) (enc (X:=Bool)) λx y=>y=Mv x.2.1 x.2.2 x.1
def A1(h1:S iE=qav):aq bT bP S qBm (λ_=>True) (enc (X:=Bool)) λx y=>y=Mv x.2.1 x.2.2 x.1:=by
 rintro⟨r,x,tok⟩ -;rw[CK];by_cases c:r.ty=x.name
 rotate_left
 ·simp[qiO,qd7,bT,bP,Mv,c,-fB',-eB']
 by_cases d:r.b<=tok
 rotate_left
 ·simp[qiO,qd7,bT,bP,Mv,c,d,-fB',-eB']
 by_cases j:tok<r.e
 rotate_left
 ·simp[qiO,qd7,bT,bP,Mv,c,d,j,-fB',-eB']
 by_cases h:x.arg=ll
 ·have a:x.arg=⟨#[]⟩:=h;simp[qiO,qd7,bT,bP,Mv,c,d,j,h,a,ll,-fB',-eB']
 ·have a:¬x.arg=⟨#[]⟩:=h;simp[qiO,qd7,bT,bP,Mv,h1,c,d,j,h,a,-fB',-eB']
abbrev qfl:Spc:=aJ (a3 Corpus Cond Int) (λ_=>True) (enc (X:=Bool)) λx y=>y=x.1.regs.any (Mv x.2.1 x.2.2)
def DO(h0:S0 ck=F0)(h1:S bM=VC Region S0):aq mi lP S (a3 Corpus Cond Int) (λ_=>True) (enc (X:=Bool)) λx y=>y=x.1.regs.any (Mv x.2.1 x.2.2):=by
 rintro⟨c,x,tok⟩ -;have a:FunOn S0 (.clo ck [.cptr (qd7 x) 0, .cptr [enc tok] 0]) c.regs (Mv x tok):=
  uc (f:=λr=>(r,x,tok)) h0 (λr _=>EV qiO Z7 (r,x,tok)) (λ_ _=>trivial) (λr _ y b=>b)
 unfold qd7 at a;simp[mi,lP,h1,-fB',-eB'];exact⟨⟨_,a⟩,λy b=>b _ a⟩
mutual
def rR:Cond->Bool| .mk op _ _ _ _ _ ks=>decide (op=4)||Va ks
def Va:List Cond->Bool|[]=>false|k::ks=>rR k||Va ks
end
def PN:∀l:List Cond,Va l=l.any rR
 | []=>by rw[Va];rfl
 |k::l=>by rw[Va,PN l];rfl
theorem K9(x:Cond):rR x=(decide (x.op=4)||x.kids.any rR):=by cases x;rw[rR,PN]
abbrev FZ(n:Nat):Spc:=aJ (a1 Cond) (λx=>dE x<=n) (enc (X:=Bool)) λx y=>y=rR x
def HO(n:Nat)(h0:S0 bD=FZ n)(h1:S bC=VC Cond S0):aq jW jN S (a1 Cond) (λx=>dE x<=n+1) (enc (X:=Bool)) λx y=>y=rR x:=by
 rintro x c;have c:dE x<=n+1:=c;have d:FunOn S0 (.clo bD []) x.kids rR:=
  uc (f:=λk=>k) h0 (λk _=>by rw[qo7,Cod.dec_enc]) (λk hk=>by have:=NV hk;show dE k<=n;omega) (λr _ y b=>b)
 have a:=K9 x;by_cases e:x.op=4
 ·simp[jW,jN,h1,a,e,-fB',-eB']
 ·simp[jW,jN,h1,a,e,-fB',-eB'];exact⟨⟨_,d⟩,λy b=>b _ d⟩
end
section
open Cod (enc dec)
variable {dq:Prop}
@[simp] theorem qyH(s:Rp):Rp.mk s.s s.pos s.fault s.e=s:=by cases s;rfl
def sT(s:Rp):List D:=[enc s.s,enc s.pos,enc s.fault,enc s.e]
@[simp] theorem qvR(s:Rp):sT s=[enc s.s,enc s.pos,enc s.fault,enc s.e]:=i' rfl
section
variable {Y Z:Type}
def qnr:Oh Rp:=qdS sT
def qw2(A:dN Z)(er:Y->D)(pre:Rp->Z->Prop)(post:Rp->Z->Rp->Y->Prop):Spc:=qp8 qnr A er pre post
def qAh(er:Y->D)(pre:Rp->Z->Prop)(post:Rp->Z->Rp->Y->Prop)(id b:Nat)(r:Option Res)(o:Option Z)(H:ab)(K:D->ab->Prop):Prop:=
 ∃x,r=some (.box b (sT x))/\eX o λz=>pre x z/\∀a y,post x z a y->K (er y) (ai H id (some (.box b (sT a))))
def qhQ{x y:Rp}(h:sT x=sT y):x=y:=by
 obtain⟨l,a,d,e⟩:=x;obtain⟨l',b,c,j⟩:=y;simp only[sT,qCL]at h;obtain⟨h1,h2,h3,h4,_⟩:=h;have h1:=bi h1;have h2:=bi h2;have h3:=bi h3;have h4:=bi h4;subst h1;subst h2;subst h3;subst h4;rfl
@[simp] theorem qnq(A:dN Z)(er:Y->D)(pre:Rp->Z->Prop)(post:Rp->Z->Rp->Y->Prop)(d i b:Nat)(ds:List D)(H:ab)(K:D->ab->Prop):(qw2 A er pre post).pt d (.bptr i b 0::ds) H K=qAh er pre post i b (H i) (A.dec ds) H K:=by
 refine propext ⟨λh=>?_,λh=>?_⟩
 ·obtain⟨id,b',x,z,a,h1,h2,h3,h4,h5,h6,c⟩:=h;cases h1;refine⟨x,h3,?_⟩;rw[h2];exact⟨h6,c⟩
 ·obtain⟨x,h1,h2⟩:=h;cases hz:A.dec ds with
  |none=>rw[hz]at h2;exact h2.elim
  |some z=>rw[hz]at h2;exact⟨i,b,x,z,ds,rfl,hz,h1,λp hp=>by simp[qnr,qdS]at hp,by simp[qnr,qdS],h2.1,h2.2⟩
def Hp(er:Y->D)(b:Nat)(post:Rp->Y->Prop)(r:D)(H:ab):Prop:=Oe qnr er b post r H
def GT{er:Y->D}{b:Nat}{post:Rp->Y->Prop}{r:D}{H:ab}(x:Rp)(y:Y)(a:FrzTo (λi=>if i=0 then none else H i) r (er y))(h0:H 0=some (.box b (sT x)))(c:post x y):Hp er b post r H:=
 ⟨x,y,by simpa [qnr,qdS]using a,h0,λp hp=>by simp[qnr,qdS]at hp,c⟩
def vJ(cc:CC)(rs:List ak)(S:Nat->Spc)(A:dN Z)(er:Y->D)(pre:Rp->Z->Prop)(post:Rp->Z->Rp->Y->Prop):Prop:=
 ∀b x z,pre x z->vc S cc (tJ rs λr H'=>Hp er b (post x z) r H') (dt (.bptr 0 b 0::A.view z)) (ai bV 0 (some (.box b (sT x))))
variable {P:Program}{S:Nat->Spc}{f:Nat}{im:List Nat}{cc:CC}{rs:List ak}{N:Nat}
def Yv{A:dN Z}{er:Y->D}{pre:Rp->Z->Prop}{post:Rp->Z->Rp->Y->Prop}(a:∀f,Tri dq P f (S f).pt)(h:xD P f im cc rs N)(c:∀z,(A.view z).length+1<=N)(d:vJ cc rs S A er pre post):Tri dq P f (qw2 A er pre post).pt:=
 yI (by simp[qnr,qdS]) a h c λb x z hp=>d b x z hp
end
section
variable {Y Z:Type}
def qd4(A:dN Z)(er:Y->D)(F:Rp->Z->Option (Rp×Y)):Spc:=qw2 A er (λs z=>∃r,F s z=some r) (λs z a y=>F s z=some (a,y))
def qft(er:Y->D)(F:Rp->Z->Option (Rp×Y))(id b:Nat)(r:Option Res)(o:Option Z)(H:ab)(K:D->ab->Prop):Prop:=
 ∃x,r=some (.box b (sT x))/\eX o λz=>eX (F x z) λq=>K (er q.2) (ai H id (some (.box b (sT q.1))))
@[congr] theorem qtO{er:Y->D}{F:Rp->Z->Option (Rp×Y)}{id b:Nat}{r r':Option Res}{o a:Option Z}{H:ab}{K:D->ab->Prop}(h1:r=r')(h2:o=a):qft er F id b r o H K=qft er F id b r' a H K:=by subst h1;subst h2;rfl
def qnL{F:Option (Rp×Y)}{k:Rp->Y->Prop} :((∃r,F=some r)/\∀a y,F=some (a,y)->k a y)=eX F λq=>k q.1 q.2:=by
 cases F with
 | none=>
   refine propext (Iff.intro (λh=>?_) (λh=>?_))
   ·obtain⟨⟨r,h⟩,_⟩:=h;cases h
   ·exact False.elim h
 | some r=>
   refine propext (Iff.intro (λh=>h.2 _ _ rfl) (λh=>⟨⟨_,rfl⟩,λa y e=>?_⟩));cases e;exact h
@[simp] theorem qw0(A:dN Z)(er:Y->D)(F:Rp->Z->Option (Rp×Y))(d i b:Nat)(ds:List D)(H:ab)(K:D->ab->Prop):(qd4 A er F).pt d (.bptr i b 0::ds) H K=qft er F i b (H i) (A.dec ds) H K:=by
 unfold qd4 qft;rw[qnq];unfold qAh;refine propext (exists_congr λx=>and_congr_right λ_=>?_);cases A.dec ds with
 |none=>exact qDz
 |some z=>exact iff_of_eq qnL
@[simp] theorem qw1(er:Y->D)(F:Rp->Z->Option (Rp×Y))(id b:Nat)(l:B)(p a e:Int)(o:Option Z)(H:ab)(K:D->ab->Prop):
 qft er F id b (some (.box b [.v (.string l), .v (.int .i64 p), .v (.int .i64 a), .v (.int .i64 e)])) o H K=eX o λz=>eX (F ⟨l,p,a,e⟩ z) λq=>K (er q.2) (ai H id (some (.box b (sT q.1)))):=by
 refine propext ⟨λ⟨x,h1,h2⟩=>?_,λh=>⟨⟨l,p,a,e⟩,rfl,h⟩⟩;have c:sT ⟨l,p,a,e⟩=sT x:=by
  have:=qCr h1;exact(Res.box.inj this).2
 have:=qhQ c;subst this;exact h2
variable {P:Program}{S:Nat->Spc}{f:Nat}{im:List Nat}{cc:CC}{rs:List ak}{N:Nat}
def fU{A:dN Z}{er:Y->D}{F:Rp->Z->Option (Rp×Y)}(a:∀f,Tri dq P f (S f).pt)(h:xD P f im cc rs N)(b:∀z,(A.view z).length+1<=N)
 (c:vJ cc rs S A er (λs z=>∃r,F s z=some r) (λs z d y=>F s z=some (d,y))):Tri dq P f (qd4 A er F).pt:=Yv a h b c
end
end
section
open Go.Proofs
def ge:CC:=gq Tryz.f254 [] { ke:=[0] } _
def fW:List ak:=[.tmp 2]
def Bq:FO bA [] ge fW 29:=fo
def kU:CC:=gq Tryz.f305 [] { bx:=[0] } _
def ko:List ak:=[]
def Bp:FO lU [] kU ko 25:=fo
def fM:CC:=gq Tryz.f297 [] { bx:=[0] } _
def fI:List ak:=[.tmp 4, .tmp 5]
def vO:FO ed [] fM fI 37:=fo
def iM:CC:=gq Tryz.f301 [] { bx:=[0] } _
def iv:List ak:=[.tmp 2, .tmp 3]
def zl:FO ju [] iM iv 27:=fo
def zT:CC:=gq Tryz.f294 [] {} _
def yN:List ak:=[.cell 4 true 5]
def Sh:FO BN [] zT yN 10:=fo
def eH:CC:=gq Tryz.f285 [2002002] { bx:=[0] } _
def eu:List ak:=[.cell 2 true 5, .tmp 3]
def Bt:FO lV [2002002] eH eu 72:=fo
def jA:CC:=gq Tryz.f295 [] { ke:=[0] } _
def jo:List ak:=[.cell 2 true 5, .tmp 3]
def AK:FO kK [] jA jo 108:=fo
def iL:CC:=gq Tryz.f275 [] { bx:=[0] } _
def iu:List ak:=[.cell 2 true 5, .tmp 3]
def zj:FO jt [] iL iu 54:=fo
def iN:CC:=gq Tryz.f253 [] { ke:=[0] } _
def iw:List ak:=[.cell 2 true 5, .tmp 3]
def zn:FO jv [] iN iw 49:=fo
def jz:CC:=gq Tryz.f210 [] { ke:=[0] } _
def jn:List ak:=[.cell 2 true 5, .tmp 3]
def AJ:FO kJ [] jz jn 44:=fo
open Cod (enc dec)
variable {S S0:Nat->Spc}
abbrev s_decR:Spc:=aJ (a1 B) (λs=>∃c,s.data[0]? =some c/\c.toNat< 128) (qR (Y:=I32) (Z:=Int)) λs y=>∀c,s.data[0]? =some c->y=(⟨c.toNat⟩,1)
abbrev s_crune:Spc:=aJ (a2 B I32) (λx=>0<=x.2.val/\x.2.val< 128) (enc (X:=Bool)) λx y=>y=qkH x.1 x.2.val
def Ck{p:Rp}{c:Int}(h:NW p=some c):p.s.size<=200/\((p.pos=p.s.size/\c= -1)\/(0<=p.pos/\p.pos<p.s.size/\p.pos≠p.s.size/\∃x:UInt8,p.s.data[p.pos.toNat]? =some x/\x.toNat< 128/\c=x.toNat)):=by
 unfold NW at h;split at h
 ·cases h
 rename_i j;refine⟨by omega,?_⟩;split at h
 ·exact .inl ⟨by assumption,(qCr h).symm⟩
 ·rename_i a;split at h
  ·rename_i h0;split at h
   ·rename_i x d;split at h
    ·rename_i b;have k:=(qCp.1 d).1;refine .inr ⟨h0,?_,a,x,d,b,(qCr h).symm⟩;show p.pos<(p.s.data.size:Int);omega
    ·cases h
   ·cases h
  ·cases h
def qAV{s:B}{k:Nat}{x:UInt8}(h:s.data[k]? =some x):(s.extract k s.size).data[0]? =some x:=by
 obtain⟨h1,h2⟩:=qCp.1 h;rw[ByteArray.data_extract,qEw];have:0<min s.size s.data.size -k:=by
  have:s.size=s.data.size:=rfl;omega
 rw[if_pos this,qDC];exact h
abbrev vV:Spc:=qd4 a0 (enc (X:=I32)) lF
theorem Q3(h1:S dn=s_decR):vJ ge fW S a0 (enc (X:=I32)) (λs z=>∃r,lF s z=some r) (λs z d y=>lF s z=some (d,y)):=by
 rintro b s ⟨⟩ ⟨r,q⟩;obtain⟨c,hc,_⟩:=qCn.1 q;have vM:∀{H:ab},H 0=some (.box b (sT s))->Hp (enc (X:=I32)) b (λd y=>lF s ()=some (d,y)) (.v (.int .i32 c)) H:=λh0=>GT s ⟨c⟩ (.same _) h0 (by simp[lF,hc])
 obtain⟨t,j⟩:=Ck hc;rcases j with⟨l,rfl⟩|⟨h0,h2,h3,x,u,k,rfl⟩
 ·simp[ge,fW,l,-fB',-eB'];exactλ_=>vM (by simp[l])
 ·have p:(s.s.data.extract s.pos.toNat s.s.size)[0]? =some x:=by rw[<-ByteArray.data_extract];exact qAV u
  simp[ge,fW,h1,h0,h2,h3,-fB',-eB'];refineλ_=>⟨by omega,⟨x,p,k⟩,λa b1 h=>?_⟩
  obtain⟨rfl,rfl⟩:=h x p;exact vM (by simp)
abbrev qaf:Spc:=qd4 a0 Ti PL
theorem Q2(h1:S dn=s_decR):vJ kU ko S a0 Ti (λs z=>∃r,PL s z=some r) (λs z d y=>PL s z=some (d,y)):=by
 rintro b s ⟨⟩ ⟨r,q⟩;obtain⟨c,hc,h⟩:=qCc.1 q;split at h
 ·rename_i j;have vM:∀{H:ab},H 0=some (.box b (sT s.bump))->Hp Ti b (λd y=>PL s ()=some (d,y)) (.tup []) H:=λh0=>GT s.bump () (.same _) h0 (by simp[PL,hc,j])
  obtain⟨t,k⟩:=Ck hc;rcases k with⟨w,rfl⟩|⟨h0,h2,h3,x,u,l,rfl⟩
  ·omega
  ·have p:(s.s.data.extract s.pos.toNat s.s.size)[0]? =some x:=by rw[<-ByteArray.data_extract];exact qAV u
   simp[kU,ko,h1,h0,h2,h3,-fB',-eB'];refine⟨by omega,⟨x,p,l⟩,λa b1 h=>?_⟩;obtain⟨rfl,rfl⟩:=h x p;exact⟨by simp only[InR];omega,vM (by simp[Rp.bump])⟩
 ·cases h
abbrev qk1:(I32×Bool)->D:=qR (Y:=I32) (Z:=Bool)
abbrev RO:Spc:=qd4 (a1 B) qk1 Dr
def Fe(h1:S bA=vV)(h2:S lU=qaf):vJ fM fI S (a1 B) qk1 (λs z=>∃r,Dr s z=some r) (λs z a y=>Dr s z=some (a,y)):=by
 rintro b s l ⟨r,d⟩;obtain⟨c,hc,h⟩:=qCc.1 d;split at h
 ·cases h
 ·rename_i hn;have j:0<=c:=by omega
  have k:c≠92:=λe=>hn (.inr e)
  simp[fM,fI,h1,h2,lF,PL,hc,j,k,-fB',-eB'];exact GT s.bump (⟨c⟩,true) (.same _) (by simp) (by simp[Dr,hc,hn])
abbrev qe0:Spc:=qd4 a0 qk1 Wc
theorem Ly(h1:S bA=vV)(h2:S iD=s_crune)(h3:S ed=RO):vJ iM iv S a0 qk1 (λs z=>∃r,Wc s z=some r) (λs z d y=>Wc s z=some (d,y)):=by
 rintro b s ⟨⟩ ⟨r,k⟩;obtain⟨c,hc,h⟩:=qCc.1 k;split at h
 ·cases h
 ·rename_i hn;have l:¬c< 0:=λe=>hn (.inl e)
  have p:qkH qbE c=false:=by
   cases e:qkH qbE c with
   |false=>rfl
   |true=>exact absurd (.inr e) hn
  have j:=Ck hc;have a:c< 128:=by
   rcases j.2 with⟨_,rfl⟩|⟨_,_,_,x,_,q,rfl⟩ <;>omega
  have t:qkH ⟨#[92,91,93,94,45]⟩ c=false:=p;have h4:Dr s ⟨#[92,91,93,94,45]⟩=some r:=h;simp[iM,iv,h1,h2,h3,lF,hc,l,t,h4,a,-fB',-eB'];obtain⟨d,⟨c'⟩,t'⟩:=r;intro u;refine⟨λ_=>⟨u,GT d (⟨c'⟩,t') (.same _) (by simp) (by simp[Wc,hc,hn,h])⟩,λ_=>GT d (⟨c'⟩,t') (.same _) (by simp) (by simp[Wc,hc,hn,h])⟩
def SW{H:ab}{op mn mx:Int}{b d:D}(rs:List Rng)(ks:List Rx)(h3:FrzTo H b (enc rs))(h4:FrzTo H d (enc ks)):FrzTo H (.agg [.v (.int .i64 op), .v (.int .i64 mn), .v (.int .i64 mx),b,d]) (enc (Rx.mk op mn mx rs ks)):=by
 rw[qg8];refine .agg rfl λk c c' hc a=>?_
 match k with
 | 0=>cases hc;cases a;exact .same _
 | 1=>cases hc;cases a;exact .same _
 | 2=>cases hc;cases a;exact .same _
 | 3=>cases hc;cases a;exact h3
 | 4=>cases hc;cases a;exact h4
 |k+5=>simp at hc
abbrev qeZ:Spc:=aJ (a2 I32 I32) (λ_=>True) (enc (X:=Rx)) λx y=>y=qeT x.1.val x.2.val
def Ua:aq zT yN S (a2 I32 I32) (λ_=>True) (enc (X:=Rx)) λx y=>y=qeT x.1.val x.2.val:=by
 rintro⟨x,y⟩ -;simp[zT,yN,qeT];exactλb=>bF (Y:=Rx) ⟨1,0,0, [⟨x,y⟩], []⟩ (SW [⟨x,y⟩] [] (.same _) (.nil _)) rfl
abbrev EM:(Rx×Bool)->D:=qR (Y:=Rx) (Z:=Bool)
abbrev qe1:Spc:=qd4 a0 EM qlg
abbrev qag:Spc:=qd4 a0 EM qbN
def qrZ{b:Nat}{post:Rp->(Rx×Bool)->Prop}{x:Rx}{v:Bool}{H:ab}(s:Rp)(h0:H 0=some (.box b (sT s)))(a:post s (x,v)):Hp EM b post (.tup [enc x, .v (.bool v)]) H:=GT s (x,v) (.same _) h0 a
def EE{b:Nat}{post:Rp->(Rx×Bool)->Prop}{x:Rx}{v:Bool}{H:ab}(s:Rp)(h0:H 0=some (.box b (sT s)))(a:post s (x,v)):Hp EM b post (.tup [.agg [.v (.int .i64 x.op), .v (.int .i64 x.mn), .v (.int .i64 x.mx), .list 2 (x.rs.map enc), .list 5 (x.kids.map enc)], .v (.bool v)]) H:=by
 have e:(D.agg [.v (.int .i64 x.op), .v (.int .i64 x.mn), .v (.int .i64 x.mx), .list 2 (x.rs.map enc), .list 5 (x.kids.map enc)])=enc x:=by simp
 rw[e];exact qrZ s h0 a
set_option maxHeartbeats 1000000 in
theorem Q4(h1:S bA=vV)(h2:S BN=qeZ)(h3:S kK=qe1)(h4:S iD=s_crune)(h5:S ed=RO):vJ eH eu S a0 EM (λs z=>∃r,qbN s z=some r) (λs z s' y=>qbN s z=some (s',y)):=by
 rintro b s ⟨⟩ ⟨r,hr⟩;have hr0:=hr;obtain⟨c,hc,h⟩:=qCc.1 hr;have hsz:=Ck hc;have h128:c< 128:=by
  rcases hsz.2 with⟨_,rfl⟩|⟨_,_,_,x,_,hlt,rfl⟩ <;>omega
 split at h
 ·cases h
 rename_i e40;split at h
 ·rename_i e46;subst e46;have hp:InR .i64 (s.pos+1):=by
   rcases hsz.2 with⟨_,e⟩|⟨_,_,_,x,_,hlt,e⟩
   ·cases e
   ·simp only[InR];omega
  cases h;simp[eH,eu,h1,h2,lF,hc,hp,-fB',-eB'];exactλ_=>EE s.bump (by simp[Rp.bump]) hr0
 rename_i e46;split at h
 ·rename_i e91;subst e91;obtain⟨s',x',t'⟩:=r;simp[eH,eu,h1,h3,lF,hc,h,-fB',-eB'];exactλ_=>EE s' (by simp) hr0
 rename_i e91;split at h
 ·cases h
 ·rename_i hn;obtain⟨q,hq,rfl⟩:=qCn.1 h;obtain⟨s',⟨c'⟩,t'⟩:=q;have hq':=hq;obtain⟨c2,hc2,h'⟩:=qCc.1 hq';rw[hc]at hc2;obtain rfl:=qCr hc2;split at h'
  ·cases h'
  rename_i hn2;have n0:0<=c:=by omega
  have n92:c≠92:=λe=>hn2 (.inr e)
  have nin:qkH ⟨#[92,46,91,93,40,41,123,125,124,42,43,63]⟩ c=false:=by
   cases e:qkH ⟨#[92,46,91,93,40,41,123,125,124,42,43,63]⟩ c with
   |false=>rfl
   |true=>exact absurd ⟨n92,e⟩ hn
  have hq2:Dr s ⟨#[92,46,91,93,40,41,123,125,124,42,43,63]⟩=some (s',⟨c'⟩,t'):=hq;simp[eH,eu,h1,h2,h4,h5,lF,hc,e40,e46,e91,n0,n92,h128,nin,hq2,-fB',-eB'];exactλ_=>EE s' (by simp) hr0
abbrev qeY:Spc:=qd4 a0 EM qfA
def qbI{p:Rp}{c:Int}(h:NW p=some c):c< 128/\ -1<=c/\(0<=c->InR .i64 (p.pos+1)):=by
 obtain⟨h1,h2⟩:=Ck h;rcases h2 with⟨_,rfl⟩|⟨_,_,_,x,_,a,rfl⟩
 ·exact⟨by omega,by omega,λh=>absurd h (by omega)⟩
 ·exact⟨by omega,by omega,λ_=>by simp only[InR];omega⟩
def qcI{c:Int}{m:Int×Int}(h:OV c=some m):c=42/\m=(0, -1)\/c=43/\m=(1, -1)\/c=63/\m=(0,1):=by
 unfold OV at h;split at h
 ·exact .inl ⟨by assumption,(qCr h).symm⟩
 split at h
 ·exact .inr (.inl ⟨by assumption,(qCr h).symm⟩)
 split at h
 ·exact .inr (.inr ⟨by assumption,(qCr h).symm⟩)
 cases h
def P4{c:Int}(h:OV c=none):c≠42/\c≠43/\c≠63:=by
 unfold OV at h;refine⟨λe=>?_,λe=>?_,λe=>?_⟩ <;>(subst e;simp at h)
def yM(o:Option (Int×Int))(x:Rx):List D:=match o with
 |none=>[.v (.int .i64 x.op), .v (.int .i64 x.mn), .v (.int .i64 x.mx), .list 2 (x.rs.map enc), .list 5 (x.kids.map enc)]
 |some m=>[.v (.int .i64 4), .v (.int .i64 m.1), .v (.int .i64 m.2), .v (.slice none 0 0), .list 5 [enc x]]
def qrY{b:Nat}{post:Rp->(Rx×Bool)->Prop}{m:Int×Int}{e:Rx}{H:ab}(s:Rp)(h0:H 0=some (.box b (sT s)))(d:post s (⟨4,m.1,m.2, [], [e]⟩,true)):Hp EM b post (.tup [.agg (yM (some m) e), .v (.bool true)]) H:=by
 refine GT s (⟨4,m.1,m.2, [], [e]⟩,true) (.tup rfl λk c c' hc a=>?_) h0 d
 match k with
 | 0=>cases hc;cases a;exact SW [] [e] (.nil _) (.same _)
 | 1=>cases hc;cases a;exact .same _
 |k+2=>simp at hc
set_option maxHeartbeats 2000000 in
theorem Lw(h1:S bA=vV)(h2:S lV=qag):vJ iL iu S a0 EM (λs z=>∃r,qfA s z=some r) (λs z s' y=>qfA s z=some (s',y)):=by
 rintro b s ⟨⟩ ⟨r,hr⟩;have hr0:=hr;obtain⟨⟨s1,e,ok⟩,ha,h⟩:=qCc.1 hr;simp only at h;split at h
 rotate_left
 ·cases h
 rename_i hok;subst hok;obtain⟨c,hc,h⟩:=qCc.1 h;split at h
 ·cases h
 rename_i e123;have hcc:=qbI hc;simp[iL,iu,h2,ha,-fB',-eB'];intro b2 b4;refine aA (X:=Option (Int×Int)) [0,2,4,5] [2] (λo=>∀m,o=some m->OV c=some m) (λ_=>[]) (λo=>[(0, .box b (sT (match o with|none=>s1|some _=>s1.bump))),(4, .box b4 (yM o e))]) (λo=>match o with|none=>1|some _=>0) none (λm h=>by cases h) ?_ (hh:=by simp[yM]);rintro(_|m) hP
 ·cases hm:OV c with
  | none=>
    rw[hm]at h;cases h;obtain⟨n1,n2,n3⟩:=P4 hm;simp[yM,h1,lF,hc,n1,n2,n3,e123,-fB',-eB'];exact EE s1 (by simp) hr0
  | some m=>
    rcases qcI hm with⟨rfl,rfl⟩|⟨rfl,rfl⟩|⟨rfl,rfl⟩
    all_goals
     have hin:=hcc.2.2 (by omega);simp[yM,h1,lF,hc,hin,-fB',-eB']
     first
      |exact⟨some (0, -1),by simp,⟨.inl ⟨rfl,rfl,rfl,rfl⟩, .inl rfl⟩,rfl⟩
      |exact⟨some (1, -1),by simp,⟨.inl ⟨rfl,rfl,rfl,rfl⟩, .inl rfl⟩,rfl⟩
      |exact⟨some (0,1),by simp,⟨.inl ⟨rfl,rfl,rfl,rfl⟩, .inl rfl⟩,rfl⟩
 ·have hm:=hP m rfl;rw[hm]at h;simp only at h;obtain⟨d,hd,h⟩:=qCc.1 h;split at h
  ·cases h
  rename_i hn;cases h;have hd':d≠123/\OV d=none:=⟨λe=>hn (.inl e),by
   cases q:OV d with
   |none=>rfl
   |some q'=>exact absurd (.inr (by rw[q];rfl)) hn⟩
  obtain⟨n1,n2,n3⟩:=P4 hd'.2;have n4:=hd'.1;simp[yM,h1,lF,hd,n1,n2,n3,n4,-fB',-eB'];simpa [yM,-fB',-eB']using qrY (e:=e) (m:=m) s1.bump (by simp) hr0
def qnw{p:Rp}{q:Rp× (Rx×Bool)}(h:qfA p ()=some q):q.2.2=true:=by
 obtain⟨a,_,h⟩:=qCc.1 h;split at h
 ·obtain⟨c,_,h⟩:=qCc.1 h;split at h
  ·cases h
  ·split at h
   ·obtain⟨d,_,h⟩:=qCc.1 h;split at h
    ·cases h
    ·cases h;rfl
   ·cases h;rfl
 ·cases h
def VN{op:Int}{l:List Rx}(h:l.length≠1):Y3 op l=⟨op,0,0, [],l⟩:=by
 match l,h with
 | [],_=>rfl
 | [e],h=>exact absurd rfl h
 | _::_::_,_=>rfl
theorem qgZ{b:Nat}{post:Rp->(Rx×Bool)->Prop}{op:Int}{l:List Rx}{id el:Nat}{v:Value}{H:ab}(s:Rp)(h0:H 0=some (.box b (sT s)))(hi:id≠0)(h1:H id=some (.row v el 5 (l.map enc)))(h:post s (⟨op,0,0, [],l⟩,true)):
 Hp EM b post (.tup [.agg [.v (.int .i64 op), .v (.int .i64 0), .v (.int .i64 0), .v (.slice none 0 0), .own id v], .v (.bool true)]) H:=by
 refine GT s (⟨op,0,0, [],l⟩,true) (.tup rfl λk c c' hc a=>?_) h0 h
 match k with
 | 0=>
   cases hc;cases a;refine SW [] l (.nil _) (.row (el:=el) (by simp[hi];exact h1) rfl (λd j=>?_) (λk c c' hc a=>?_))
   ·obtain⟨x,_,rfl⟩:=qCo.1 j;exact⟨Cod.kn x,Cod.wid x⟩
   ·rw[hc]at a;cases a;exact .same _
 | 1=>cases hc;cases a;exact .same _
 |k+2=>simp at hc
abbrev qe2:Spc:=qd4 a0 EM qhR
set_option maxHeartbeats 2000000 in
theorem Lz(h1:S bA=vV)(h2:S jt=qeY):vJ iN iw S a0 EM (λs z=>∃r,qhR s z=some r) (λs z s' y=>qhR s z=some (s',y)):=by
 rintro b s ⟨⟩ ⟨r,hr⟩;have hr0:=hr;obtain⟨⟨s',l'⟩,hl,hr⟩:=qCn.1 hr;simp only at hr;subst hr;obtain⟨c0,hc0⟩:∃c,NW s=some c:=by
  rw[Xy]at hl;obtain⟨c,hc,_⟩:=qCc.1 hl;exact⟨c,hc⟩
 simp[iN,iw,h1,lF,hc0,-fB',-eB'];intro b2;refine aA (X:=Nat×Rp×Value×List Rx×Int) [0,2] [2] (λz=>Xy z.1 z.2.1 z.2.2.2.1=some (s',l')/\z.2.2.2.1.length+z.1<=100/\NW z.2.1=some z.2.2.2.2) (λz=>[(4, .own 36 z.2.2.1),(5, .v (.int .i32 z.2.2.2.2))]) (λz=>[(0, .box b (sT z.2.1)),(36, .row z.2.2.1 Ba 5 (z.2.2.2.1.map enc))]) (λz=>z.1) (100,s, .slice none 0 0, [],c0) ⟨hl,by simp,hc0⟩ ?_ (hh:=by simp[isNilRow]);clear hl;rintro⟨k,p,v,l,c⟩ ⟨hk,hlen,hc⟩;simp only at hk hlen hc;obtain _|k:=k
 ·rw[Xy]at hk;cases hk
 rw[Xy,hc]at hk;simp only[qCy]at hk;split at hk
 ·rename_i hend;cases hk;have hlt:(l'.length:Int)<=9223372036854775807:=by omega
  by_cases hl1:l'.length=1
  ·obtain⟨e,rfl⟩:∃e,l'=[e]:=qDt.1 hl1;rcases hend with h|rfl|rfl
   ·have h':¬0<=c:=by omega
    simp[h',-fB',-eB'];exact EE s' (by simp) hr0
   all_goals
    simp[-fB',-eB'];exact EE s' (by simp) hr0
  ·rw[VN hl1]at hr0;have hl1':¬(l'.length:Int)=1:=by omega
   rcases hend with h|rfl|rfl
   ·have h':¬0<=c:=by omega
    simp[h',hl1,hl1',hlt,-fB',-eB'];exact qgZ (el:=Ba) s' (by simp) (by decide) (by simp) hr0
   all_goals
    simp[hl1,hl1',hlt,-fB',-eB'];exact qgZ (el:=Ba) s' (by simp) (by decide) (by simp) hr0
 ·rename_i hgo;obtain⟨q,hq,hk⟩:=qCc.1 hk;split at hk
  ·cases hk
  rename_i hop;have hok:=qnw hq;obtain⟨p',e,ok⟩:=q;simp only at hk hok hop;subst hok;have n1:0<=c:=by omega
  have n2:c≠124:=by omega
  have n3:c≠41:=by omega
  obtain⟨c1,hc1⟩:∃c,NW p'=some c:=by
   obtain _|k:=k
   ·rw[Xy]at hk;cases hk
   rw[Xy]at hk;obtain⟨c,hc,_⟩:=qCc.1 hk;exact⟨c,hc⟩
  simp[h1,h2,lF,hc1,hq,n1,n2,n3,hop,-fB',-eB'];exact⟨by omega,by omega,λv=>⟨k,p',v,l++ [e],c1,⟨hk,by simp;omega,hc1⟩,⟨⟨rfl,rfl⟩, .inl ⟨rfl,rfl,rfl,rfl⟩, .inl ⟨rfl,by simp⟩⟩,by omega⟩⟩
def qoT{p:Rp}{q:Rp× (Rx×Bool)}(h:qhR p ()=some q):q.2.2=true:=by
 obtain⟨a,_,rfl⟩:=qCn.1 h;rfl
abbrev qeX:Spc:=qd4 a0 EM qjx
set_option maxHeartbeats 2000000 in
theorem Om(h1:S bA=vV)(h2:S jv=qe2):vJ jz jn S a0 EM (λs z=>∃r,qjx s z=some r) (λs z s' y=>qjx s z=some (s',y)):=by
 rintro b s ⟨⟩ ⟨r,hr⟩;have hr0:=hr;obtain⟨⟨s',l'⟩,hl,hr⟩:=qCn.1 hr;simp only at hr;subst hr;simp[jz,jn,-fB',-eB'];intro b2;refine aA (X:=Nat×Rp×Value×List Rx) [0,2] [2] (λz=>qeu z.1 z.2.1 z.2.2.2=some (s',l')/\z.2.2.2.length+z.1<=100) (λz=>[(4, .own 25 z.2.2.1)]) (λz=>[(0, .box b (sT z.2.1)),(25, .row z.2.2.1 Ba 5 (z.2.2.2.map enc))]) (λz=>z.1) (100,s, .slice none 0 0, []) ⟨hl,by simp⟩ ?_ (hh:=by simp[isNilRow]);clear hl;rintro⟨k,p,v,l⟩ ⟨hk,hlen⟩;simp only at hk hlen;obtain _|k:=k
 ·rw[qeu]at hk;cases hk
 rw[qeu]at hk;obtain⟨⟨p',e,ok⟩,hq,hk2⟩:=qCc.1 hk;clear hk;obtain⟨c,hc,hk3⟩:=qCc.1 hk2;clear hk2;have hok:=qoT hq;simp only at hok hc hk3;subst hok;have hop:¬e.op=3:=λh=>by rw[if_pos h]at hk3;cases hk3
 rw[if_neg hop]at hk3;have hcc:=qbI hc;by_cases hc124:c=124
 ·rw[if_pos hc124]at hk3;have hk:=hk3;subst hc124;have hin:=hcc.2.2 (by omega);simp[h1,h2,lF,hc,hq,hop,hin,-fB',-eB'];exact⟨by omega,by omega,λv=>⟨k,p'.bump,v,l++ [e],⟨hk,by simp;omega⟩,⟨rfl, .inl ⟨rfl,rfl,rfl,rfl⟩, .inl ⟨rfl,by simp⟩⟩,by omega⟩⟩
 ·rw[if_neg hc124]at hk3;cases hk3;have hlt:((l++ [e]).length:Int)<=9223372036854775807:=by simp;omega
  have hcc':¬c=124:=hc124;cases l with
  | nil=>
    simp[h1,h2,lF,hc,hq,hop,hcc',-fB',-eB'];exactλv=>EE s' (by simp) hr0
  | cons x l=>
    simp[h1,h2,lF,hc,hq,hop,hcc',-fB',-eB'];have hr1:=hr0;rw[VN (by simp)]at hr1;exact⟨by simp at hlen;omega,by simp at hlen;omega,λv _=>⟨λh=>absurd h (by omega),λ_=>qgZ (el:=Ba) (l:=x::l++ [e]) s' (by simp) (by decide) (by simp) hr1⟩⟩
end
section
open Go.Proofs
def gz:CC:=gq Tryz.f307 [] {} _
def gi:List ak:=[]
def wL:FO eL [] gz gi 14:=fo
def dV:CC:=gq Tryz.f312 [] {} _
def dO:List ak:=[]
def qC:FO ez [] dV dO 148:=fo
def cJ:CC:=gq Tryz.f314 [] {} _
def cF:List ak:=[]
def lS:FO cT [] cJ cF 53:=fo
def qY:CC:=gq Tryz.f84 [] {} _
def qp:List ak:=[.tmp 2]
def Ii:FO sL [] qY qp 8:=fo
def ni:CC:=gq Tryz.f145 [] {} _
def mS:List ak:=[.tmp 2]
def Ee:FO pi [] ni mS 25:=fo
def mq:CC:=gq Tryz.f309 [] {} _
def lR:List ak:=[.tmp 4]
def C6:FO nc [] mq lR 20:=fo
def pX:CC:=gq Tryz.f313 [] {} _
def ow:List ak:=[.tmp 2]
def Gu:FO qQ [] pX ow 6:=fo
def pA:CC:=gq Tryz.f308 [2,3] {} _
def nS:List ak:=[.tmp 4]
def Ga:FO dg [2,3] pA nS 10:=fo
def sU:CC:=gq Tryz.f302 [2044048] { bx:=[0] } _
def sv:List ak:=[.tmp 2]
def Ko:FO uQ [2044048] sU sv 51:=fo
open Cod (enc dec)
variable {S S0:Nat->Spc}
abbrev qfa:Spc:=aJ (a1 I32) (λ_=>True) (enc (X:=Bool)) λ_ y=>y=false
def HP:aq pX ow S (a1 I32) (λ_=>True) (enc (X:=Bool)) λ_ y=>y=false:=by
 rintro x -;simp[pX,ow,-fB']
def Tv(a b:Int):Int:=if a<b then -1 else if b<a then 1 else 0
abbrev qfm:Spc:=aJ (a2 I32 I32) (λ_=>True) (enc (X:=Int)) λx y=>y=Tv x.1.val x.2.val
def DP(h1:S qQ=qfa):aq mq lR S (a2 I32 I32) (λ_=>True) (enc (X:=Int)) λx y=>y=Tv x.1.val x.2.val:=by
 rintro⟨⟨x⟩,⟨y⟩⟩ -;simp[mq,lR,h1,-fB',-eB'];refine⟨λh=>by simp[Tv,h],λh=>⟨λh2=>?_,λh2=>?_⟩⟩
 ·have h3:¬x<y:=by omega
  simp[Tv,h2,h3]
 ·have h3:¬x<y:=by omega
  have h4:¬y<x:=by omega
  simp[Tv,h3,h4]
abbrev qfb:Spc:=aJ (a2 Rng Rng) (λ_=>True) (enc (X:=Int)) λx y=>y=Tv x.1.fr.val x.2.fr.val
def HA(h1:S nc=qfm):aq pA nS S (a2 Rng Rng) (λ_=>True) (enc (X:=Int)) λx y=>y=Tv x.1.fr.val x.2.fr.val:=by
 rintro⟨x,y⟩ -;simp[pA,nS,h1,-fB',-eB']
abbrev qaA:Spc:=aJ (a1 U64) (λx=>0<=x.val/\x.val<=200) (enc (X:=Int)) λ_ _=>True
def qiF(x:List Rng×Int×Int×D×Unit):Prop:=HW x.1=true/\x.2.1=0/\x.2.2.1=x.1.length/\x.2.2.2.1= .clo dg []
abbrev qff:Spc:=aJ (aE (List Rng) (aE Int (aE Int (aD a0)))) qiF Ti λ_ _=>True
def FM{l:List Rng}(h:HW l=true):1<=l.length/\l.length<=2:=by
 match l,h with
 | [x],_=>exact⟨qCj 1,qDm 1⟩
 | [x,y],_=>exact⟨qDm 1,qCj 2⟩
def UW:∀{l:List Rng},HW l=true->1<l.length->∃x y,l=[x,y]
 | [x,y],_,_=>⟨x,y,rfl⟩
 | [x],_,h=>by simp at h
def qeE:∀{l:List Rng} {x:Rng},l[0]? =some x->(l.take 1).foldl tM []=[x]
 |y::l,x,h=>by cases h;rfl
theorem Ol(h1:S dg=qfb):aq cJ cF S (aE (List Rng) (aE Int (aE Int (aD a0)))) qiF Ti λ_ _=>True:=by
 rintro⟨l,a,b,d,⟨⟩⟩ ⟨hs,j,hb,k⟩;simp only at hs j hb k;subst j;subst hb;subst k;simp[cJ,cF,-fB',-eB'];have c:=FM hs;refine⟨by simp only[InR];omega,?_⟩;refine aA (X:=Nat) [0,1,2,3] [] (λi=>1<=i/\i<=l.length) (λi=>[(8,enc (i:Int))]) (λ_=>[]) (λi=>l.length -i) 1 ⟨qCj 1,c.1⟩ ?_;rintro i ⟨p,q⟩;by_cases h:i<l.length
 ·obtain rfl:i=1:=by omega
  obtain⟨x,y,rfl⟩:=UW hs h;simp[-fB',-eB'];refine aA (X:=Unit) [0,1,2,3,8] [] (λ_=>True) (λ_=>[(9,enc (1:Int))]) (λ_=>[]) (λ_=>0) () trivial ?_;rintro - -;have hc:¬Tv y.fr.val x.fr.val< 0:=by
   simp[HW]at hs;unfold Tv;rw[if_neg (by omega)];split<;>omega
  simp[h1,hc,-fB',-eB'];exact⟨by simp only[InR];omega,λ_=>⟨by simp only[InR];omega,2,⟨by omega,by omega⟩,rfl,rfl⟩⟩
 ·obtain rfl:i=l.length:=by omega
  simp[-fB',-eB'];exact bF (Y:=Unit) () (.same _) trivial
abbrev qe9:Spc:=aJ (aE (List Rng) (aE Int (aE Int (aE Int (aD a0))))) (λx=>qiF (x.1,x.2.1,x.2.2.1,x.2.2.2.2)) Ti λ_ _=>True
def Ok(h1:S cT=qff):aq dV dO S (aE (List Rng) (aE Int (aE Int (aE Int (aD a0))))) (λx=>qiF (x.1,x.2.1,x.2.2.1,x.2.2.2.2)) Ti λ_ _=>True:=by
 rintro⟨l,a,b,q,d,⟨⟩⟩ hp;have c:=hp;obtain⟨hs,k,hb,p⟩:=hp;simp only at hs k hb p c;subst k;subst hb;subst p;have r:=FM hs;simp[dV,dO,-fB',-eB'];refine aA (X:=Unit) [0,1,2,3,4,10,11] [] (λ_=>True) (λ_=>[]) (λ_=>[]) (λ_=>0) () trivial ?_;rintro - -;have h:(l.length:Int)<=12:=by omega
 have j:InR .i64 (l.length:Int):=by simp only[InR];omega
 simp[h1,h,j,c,-fB',-eB'];exact bF (Y:=Unit) () (.same _) trivial
abbrev qjN:Spc:=aJ (aE (List Rng) (aD a0)) (λx=>HW x.1=true/\x.2.1= .clo dg []) Ti λ_ _=>True
def xG(h1:S sL=qaA)(h2:S ez=qe9):aq gz gi S (aE (List Rng) (aD a0)) (λx=>HW x.1=true/\x.2.1= .clo dg []) Ti λ_ _=>True:=by
 rintro⟨l,d,⟨⟩⟩ ⟨hs,b⟩;simp only at hs b;subst b;have c:=FM hs;have hp:qiF (l,0,(l.length:Int), .clo dg [],()):=⟨hs,rfl,rfl,rfl⟩
 have h:IntKind.u64.wrap (l.length:Int)=l.length:=by rw[IntKind.wrap_u64];omega
 have a:(l.length:Int)<=200:=by omega
 simp[gz,gi,h1,h2,hp,h,a,-fB',-eB'];exactλ_=>bF (Y:=Unit) () (.same _) trivial
abbrev Vx:Spc:=aJ (a1 U64) (λx=>0<=x.val/\x.val<=200) (enc (X:=Int)) λ_ _=>True
def Yj(h1:S pi=Vx):aq qY qp S (a1 U64) (λx=>0<=x.val/\x.val<=200) (enc (X:=Int)) λ_ _=>True:=by
 rintro⟨x⟩ ⟨h0,h2⟩;simp only at h0 h2;simp[qY,qp,h1,h0,h2,-fB',-eB']
def Rq:aq ni mS S (a1 U64) (λx=>0<=x.val/\x.val<=200) (enc (X:=Int)) λ_ _=>True:=by
 rintro⟨x⟩ ⟨h0,h2⟩;simp only at h0 h2;have c1:¬4294967296<=x:=by omega
 have c2:¬65536<=x:=by omega
 have c3:¬256<=x:=by omega
 have b:IntKind.u8.wrap x=x:=by rw[IntKind.wrap_u8];omega
 simp[ni,mS,c1,c2,c3,b,h0,-fB',-eB'];refine⟨Int.lt_of_le_of_lt h2 (by decide),λc _=>?_⟩;have:=c.toNat_lt;have a:IntKind.i64.wrap (c.toNat:Int)=c.toNat:=by rw[IntKind.wrap_i64];omega
 rw[a];simp only[InR];omega
abbrev qbM:Spc:=qv8 (Y:=Rng) (aD a0) (λx=>HW x.1=true/\x.2.1= .clo dg []) Ti (λ_ _=>True) xS 2
abbrev Vh:Spc:=qrD (Y:=Rng) a0 (λ_ l=>HW l=true) (λ_ l r=>r=GB l) xS 2
set_option maxHeartbeats 1000000 in
theorem Lx(h1:S eL=qbM):TK (Y:=Rng) sU sv S a0 (λ_ l=>HW l=true) (λ_ l r=>r=GB l) xS 2:=by
 rintro v l ⟨⟩ hs;have hs:HW l=true:=hs;have hl2:=FM hs;simp[sU,sv,h1,hs,-fB',-eB'];intro _;refine ah (X:=Value×List Rng) [9] [0] l.length (λk x=>x.2=(l.take k).foldl tM []) (λx=>[(3, .own 48 x.1)]) (λx=>[(48, .row x.1 xS 2 (x.2.map enc))]) (.slice none 0 0, []) rfl ?_ ?_ (hh:=by simp[isNilRow])
 ·rintro k ⟨v',out⟩ hk hP;simp only at hP;have hk2:k=0\/k=1:=by omega
  rcases hk2 with rfl|rfl
  ·obtain⟨x,hx⟩:∃x,l[0]? =some x:=⟨_,qCe hk⟩
   obtain⟨_,hgx⟩:=qCd.1 hx;have ho:out=[]:=by rw[hP];rfl
   subst ho;have h1:=qeE hx;simp[hk,hx,hgx,h1,-fB',-eB']
  ·obtain⟨x,y,rfl⟩:=UW hs hk;have ho:out=[x]:=by rw[hP];rfl
   subst ho;simp[HW]at hs;by_cases hle:y.fr.val<=x.to.val+1
   ·have hst:tM (tM [] x) y=[⟨x.fr,⟨max x.to.val y.to.val⟩⟩]:=by simp[tM,hle]
    have hr:InR .i32 (x.to.val+1):=by simp only[InR];omega
    simp[hle,hst,hr,-fB',-eB'];simp only[InR];omega
   ·have hst:tM (tM [] x) y=[x,y]:=by simp[tM,hle]
    have hr:InR .i32 (x.to.val+1):=by simp only[InR];omega
    simp[hle,hst,hr,-fB',-eB'];simp only[InR];omega
 ·rintro⟨v',out⟩ hP;simp only at hP;rw[qCx]at hP;subst hP;simp[-fB',-eB'];exact dw (GB l) (by simp[GB]) rfl
def qhO{p:Rp}{a:B}{q:Rp× (I32×Bool)}{c:Int}(hc:NW p=some c)(h:Dr p a=some q):q=(p.bump,⟨c⟩,true):=by
 unfold Dr at h;rw[hc,qCy]at h;split at h
 ·cases h
 ·exact(qCr h).symm
def qks{p:Rp}{q:Rp× (I32×Bool)}{c:Int}(hc:NW p=some c)(h:Wc p ()=some q):q=(p.bump,⟨c⟩,true):=by
 unfold Wc at h;rw[hc,qCy]at h;split at h
 ·cases h
 ·exact qhO hc h
theorem qrX{b:Nat}{post:Rp->(Rx×Bool)->Prop}{l:List Rng}{id el:Nat}{v:Value}{H:ab}(s:Rp)(h0:H 0=some (.box b (sT s)))(hi:id≠0)(h1:H id=some (.row v el 2 (l.map enc)))(h:post s (⟨1,0,0,l, []⟩,true)):
 Hp EM b post (.tup [.agg [.v (.int .i64 1), .v (.int .i64 0), .v (.int .i64 0), .own id v, .v (.slice none 0 0)], .v (.bool true)]) H:=by
 refine GT s (⟨1,0,0,l, []⟩,true) (.tup rfl λk c c' hc a=>?_) h0 h
 match k with
 | 0=>
   cases hc;cases a;refine SW l [] (.row (el:=el) (by simp[hi];exact h1) rfl (λd j=>?_) (λk c c' hc a=>?_)) (.nil _)
   ·obtain⟨x,_,rfl⟩:=qCo.1 j;exact⟨Cod.kn x,Cod.wid x⟩
   ·rw[hc]at a;cases a;exact .same _
 | 1=>cases hc;cases a;exact .same _
 |k+2=>simp at hc
set_option maxHeartbeats 2000000 in
theorem Oq(h1:S bA=vV)(h2:S ju=qe0)(h3:S uQ=Vh):vJ jA jo S a0 EM (λs z=>∃r,qlg s z=some r) (λs z s' y=>qlg s z=some (s',y)):=by
 rintro b s ⟨⟩ ⟨r,hr⟩;have hr0:=hr;obtain⟨a0,ha0,h⟩:=qCc.1 hr;have e91:¬a0≠91:=λe=>by rw[if_pos e]at h;cases h
 rw[if_neg e91]at h;have hin:=(qbI ha0).2.2 (by omega);obtain⟨c0,hc0,h⟩:=qCc.1 h;have n94:¬c0=94:=λe=>by rw[if_pos e]at h;cases h
 rw[if_neg n94]at h;obtain⟨⟨s',l'⟩,hl,h⟩:=qCc.1 h;simp only at h;have hsrt:HW l'=true:=by
  split at h
  ·assumption
  ·cases h
 rw[if_pos hsrt]at h;cases h;have hc1:NW ⟨s.s,s.pos+1,s.fault,s.e⟩=some c0:=hc0;simp[jA,jo,h1,lF,hin,hc1,n94,-fB',-eB'];intro b2;refine aA (X:=Nat×Rp×Value×List Rng) [0,2,4,5] [2] (λz=>qhM z.1 z.2.1 z.2.2.2=some (s',l')/\z.2.2.2.length+z.1<=100) (λz=>[(6, .own 86 z.2.2.1)]) (λz=>[(0, .box b (sT z.2.1)),(86, .row z.2.2.1 xS 2 (z.2.2.2.map enc))]) (λz=>z.1) (100,s.bump, .slice none 0 0, []) ⟨hl,by simp⟩ ?_ (hh:=by simp[isNilRow,Rp.bump]);clear hl;rintro⟨k,p,v,l⟩ ⟨hk,hlen⟩;simp only at hk hlen;obtain _|k:=k
 ·rw[qhM]at hk;cases hk
 rw[qhM]at hk;obtain⟨c,hc,hk2⟩:=qCc.1 hk;clear hk;have hlt:(l.length:Int)<=9223372036854775807:=by omega
 by_cases hend:l≠ []/\c=93
 ·rw[if_pos hend]at hk2;cases hk2;obtain⟨hne,rfl⟩:=hend;have hin2:=(qbI hc).2.2 (by omega);have hl0:¬l'.length=0:=λe=>hne (qCT.1 e)
  simp(config:={ maxSteps:=2000000 }) [h1,h3,lF,hc,hlt,hne,hl0,hin2,hsrt,-fB',-eB'];exactλv'=>qrX (el:=xS) s'.bump (by simp[Rp.bump]) (by decide) (by simp) hr0
 ·rw[if_neg hend]at hk2;obtain⟨q,hq,hk3⟩:=qCc.1 hk2;clear hk2;obtain⟨d,hd,hk4⟩:=qCc.1 hk3;clear hk3;have hqv:=qks hc hq;subst hqv;simp only at hd hk4;have n45:¬d=45:=λe=>by rw[if_pos e]at hk4;cases hk4
  rw[if_neg n45]at hk4;have hd':NW ⟨p.s,p.pos+1,p.fault,p.e⟩=some d:=hd;cases l with
  | nil=>
    simp(config:={ maxSteps:=2000000 }) [h1,h2,lF,hq,hd',n45,Rp.bump,-fB',-eB'];exactλv=>⟨k,p.bump,v, [⟨⟨c⟩,⟨c⟩⟩],⟨hk4,by simp at hlen ⊢;omega⟩,⟨rfl, .inl ⟨rfl,rfl,rfl,rfl⟩, .inl ⟨rfl,by simp⟩⟩,by omega⟩
  | cons x l=>
    have n93:¬c=93:=λe=>hend ⟨by simp,e⟩
    simp(config:={ maxSteps:=2000000 }) [h1,h2,lF,hc,hq,hd',n45,n93,Rp.bump,-fB',-eB'];have hlen2:l.length+1+ (k+1)<=100:=by simpa using hlen
    first
     |exactλ_ _=>⟨by omega,by omega,λv=>⟨k,p.bump,v,x::l++ [⟨⟨c⟩,⟨c⟩⟩],⟨hk4,by simp;omega⟩,⟨rfl, .inl ⟨rfl,rfl,rfl,rfl⟩, .inl ⟨rfl,by simp⟩⟩,by omega⟩⟩
     |exact⟨by omega,by omega,by omega,λv=>⟨k,p.bump,v,x::l++ [⟨⟨c⟩,⟨c⟩⟩],⟨hk4,by simp;omega⟩,⟨rfl, .inl ⟨rfl,rfl,rfl,rfl⟩, .inl ⟨rfl,by simp⟩⟩,by omega⟩⟩
     |exact⟨by omega,by omega,λv=>⟨k,p.bump,v,x::l++ [⟨⟨c⟩,⟨c⟩⟩],⟨hk4,by simp;omega⟩,⟨rfl, .inl ⟨rfl,rfl,rfl,rfl⟩, .inl ⟨rfl,by simp⟩⟩,by omega⟩⟩
     |(refineλ_=>⟨λ_=>?_,λ_=>?_⟩ <;>exact⟨by omega,by omega,λv=>⟨k,p.bump,v,x::l++ [⟨⟨c⟩,⟨c⟩⟩],⟨hk4,by simp;omega⟩,⟨rfl, .inl ⟨rfl,rfl,rfl,rfl⟩, .inl ⟨rfl,by simp⟩⟩,by omega⟩⟩)
end
end Go.Gv
