/- W215 -/
import Derived.ProofKit
import Derived.OpenShut
import Derived.ShutString
import Derived.ChangeOld
import Derived.Test.YtfpmgnnippjblaaGreatDoorGb26
set_option linter.all false
set_option maxRecDepth 100000
set_option maxHeartbeats 0
open Bool renaming forall_bool → fB', exists_bool → eB'
namespace Go.Gv
section
open Cod (enc dec)
variable {S S0:Nat->Spc}
abbrev qis(n:Nat):Spc:=ay (a1 Cond) (λx=>bi x<=n) (enc (X:=Bool)) λx y=>y=oc x
theorem TX(n:Nat)(h1:S pE=qis n):aq sa rQ S (a1 Cond) (λx=>bi x<=n+1) (enc (X:=Bool)) λx y=>y=oc x:=by
 rintro x j;have j:bi x<=n+1:=j;have a:=Nj x;by_cases e:x.op=4
 ·simp[sa,rQ,h1,a,e,-fB',-eB']
 simp[sa,rQ,e,-fB',-eB'];intro l;refine ah (X:=Unit) [9] [] x.kids.length (λk _=>∀z∈x.kids.take k,oc z=false) (λ_=>[]) (λ_=>[]) () (by simp) ?_ ?_
 ·intro k _ hk c;obtain⟨z,b⟩:=aQ hk;obtain⟨_,d⟩:=qFN.1 b;have hz:=qFP b;have hp:bi z<=n:=by have:=DF hz;omega
  simp[hk,b,d,h1,hp,-fB',-eB'];refine⟨λh=>?_,λh=>?_⟩
  ·rw[a,qGS.2 ⟨z,hz,h⟩];simp
  ·rw[au b];intro u hu;rcases qF1.1 hu with hu|hu
   ·exact c u hu
   ·simp at hu;subst hu;exact h
 ·intro _ c;have:x.kids.any oc=false:=List.any_eq_false.2 λz hz=>by rw[c z (by simpa using hz)];decide
  simp[a,e,this,-fB',-eB']
abbrev qdR:Spc:=ay (a1 Cond) (λx=>∃n,bi x<=n) (enc (X:=Bool)) λx y=>y=oc x
def Ti{H:ab}{i:Nat}{op:Int}{name arg val lab:B}{fold:Bool}{l:List Cond}{v:Value}(h:H i=some (.row v iD 7 (l.map enc))):FrzTo H (.agg [.v (.int .i64 op), .v (.string name), .v (.string arg), .v (.string val), .v (.string lab), .v (.bool fold), .own i v]) (enc (Cond.mk op name arg val lab fold l)):=by
 simp;refine .agg rfl λk c c' h1 h2=>?_
 match k,h1,h2 with
 | 0,h1,h2|1,h1,h2|2,h1,h2|3,h1,h2|4,h1,h2|5,h1,h2=>cases h1;cases h2;exact .same _
 | 6,h1,h2=>cases h1;cases h2;exact fM iD h
 |k+7,h1,_=>simp at h1
abbrev YT(n:Nat):Spc:=ay (a1 Cond) (λx=>bi x<=n/\cQ x<=60) (enc (X:=Cond)) λx y=>y=dw x
set_option maxHeartbeats 1000000 in
theorem Xz(n:Nat)(h1:S pE=qdR)(h2:S sG=YT n):aq lR lI S (a1 Cond) (λx=>bi x<=n+1/\cQ x<=60) (enc (X:=Cond)) λx y=>y=dw x:=by
 rintro x ⟨hd,hn⟩;have hsm:∃n,bi x<=n:=⟨_,qFU _⟩
 have hany:∀H:ab,Fin (enc (X:=Cond)) (λy=>y=⟨1,ft,ft,ft,ft,false, []⟩) (D.agg [.v (.int .i64 1), .v (.string ⟨#[]⟩), .v (.string ⟨#[]⟩), .v (.string ⟨#[]⟩), .v (.string ⟨#[]⟩), .v (.bool false), .v (.slice none 0 0)]) H:=λH=>by
  refine aM ⟨1,ft,ft,ft,ft,false, []⟩ ?_ rfl;simp[ft];refine .agg rfl λk c c' h1 h2=>?_
  match k,h1,h2 with
  | 0,h1,h2|1,h1,h2|2,h1,h2|3,h1,h2|4,h1,h2|5,h1,h2=>cases h1;cases h2;exact .same _
  | 6,h1,h2=>cases h1;cases h2;exact .nil 7
  |k+7,h1,_=>simp at h1
 by_cases hc:x.op=4\/x.op=6/\oc x=true
 ·have hl:dw x=⟨1,ft,ft,ft,ft,false, []⟩:=by rw[DW,if_pos hc]
  rcases hc with e|⟨e,e'⟩
  ·simp[lR,lI,h1,hsm,e,hl,-fB',-eB'];exactλ_=>hany _
  ·obtain⟨op,name,arg,val,lab,fold,ks⟩:=x;simp only at e;subst e;simp[lR,lI,h1,hsm,e',hl,-fB',-eB'];exactλ_=>hany _
 ·have hl:dw x=⟨x.op,x.name,x.arg,x.val,x.lab,x.fold,x.kids.map dw⟩:=by rw[DW,if_neg hc]
  have e4:¬x.op=4:=λh=>hc (.inl h)
  obtain⟨op,name,arg,val,lab,fold,ks⟩:=x;simp only at hl e4;have hs:op=6->oc ⟨op,name,arg,val,lab,fold,ks⟩=false:=λh=>by
   cases hb:oc ⟨op,name,arg,val,lab,fold,ks⟩with
   |false=>rfl
   |true=>exact absurd (.inr ⟨h,hb⟩) hc
  have hkn:∀y∈ks,bi y<=n/\cQ y<=60:=λy hy=>by
   have h1:=DF (p:=⟨op,name,arg,val,lab,fold,ks⟩) hy;have h2:=DT hy;have h3:=rS ⟨op,name,arg,val,lab,fold,ks⟩;simp only at h3;exact⟨by omega,by omega⟩
  have hks:ks.length<=60:=by
   have h3:=rS ⟨op,name,arg,val,lab,fold,ks⟩;simp only at h3;have:=KI ks;omega
  by_cases e6:op=6
  ·subst e6;have hs':=hs rfl;simp[lR,lI,h1,hsm,hs',hl,-fB',-eB'];intro b1 b2 hkl;refine ah (X:=Value×List Cond) [1,2,20] [1,2] ks.length (λk z=>z.2=(ks.take k).map dw/\z.2.length=k) (λz=>[(3, .own 30 z.1)]) (λz=>[(30, .row z.1 iD 7 (z.2.map enc))]) (.slice none 0 0, []) ⟨rfl,rfl⟩ ?_ ?_ (hh:=by simp[isNilRow])
   ·rintro k ⟨v,l⟩ hk ⟨hl1,hl2⟩;simp only at hl1 hl2;obtain⟨y,hy⟩:=aQ hk;obtain⟨_,hgy⟩:=qFN.1 hy;obtain⟨q1,q2⟩:=hkn y (qFP hy);have hk60:ks.length<=60:=hks;simp[h2,hk,hy,hgy,q1,q2,-fB',-eB'];refine⟨by omega,by omega,λv'=>⟨v',l++ [dw y],⟨?_,by simp;omega⟩,rfl, .inl ⟨rfl,by simp⟩⟩⟩;rw[hl1,<-List.map_take,au hy];simp
   ·rintro⟨v,l⟩ ⟨hl1,hl2⟩;simp only at hl1 hl2;rw[qFX]at hl1;simp[-fB',-eB'];exact aM _ (Ti rfl) (by rw[hl1])
  ·simp[lR,lI,h1,hsm,e4,e6,hl,-fB',-eB'];intro b1 b2 hkl;refine ah (X:=Value×List Cond) [1,2,20] [1,2] ks.length (λk z=>z.2=(ks.take k).map dw/\z.2.length=k) (λz=>[(3, .own 30 z.1)]) (λz=>[(30, .row z.1 iD 7 (z.2.map enc))]) (.slice none 0 0, []) ⟨rfl,rfl⟩ ?_ ?_ (hh:=by simp[isNilRow])
   ·rintro k ⟨v,l⟩ hk ⟨hl1,hl2⟩;simp only at hl1 hl2;obtain⟨y,hy⟩:=aQ hk;obtain⟨_,hgy⟩:=qFN.1 hy;obtain⟨q1,q2⟩:=hkn y (qFP hy);have hk60:ks.length<=60:=hks;simp[h2,hk,hy,hgy,q1,q2,-fB',-eB'];refine⟨by omega,by omega,λv'=>⟨v',l++ [dw y],⟨?_,by simp;omega⟩,rfl, .inl ⟨rfl,by simp⟩⟩⟩;rw[hl1,<-List.map_take,au hy];simp
   ·rintro⟨v,l⟩ ⟨hl1,hl2⟩;simp only at hl1 hl2;rw[qFX]at hl1;simp[-fB',-eB'];exact aM _ (Ti rfl) (by rw[hl1])
abbrev Sp:Spc:=ay (a1 Cond) (λx=>∃n,bi x<=n/\cQ x<=60) (enc (X:=Cond)) λx y=>y=dw x
abbrev YZ:Spc:=ay (a1 Cond) (λx=>cQ x<=60/\bi x<=20) (enc (X:=Cond)) λx y=>y=dw x
def XF(h1:S sJ=s_rNodes)(h2:S sG=Sp):aq A1 zY S (a1 Cond) (λx=>cQ x<=60/\bi x<=20) (enc (X:=Cond)) λx y=>y=dw x:=by
 rintro x ⟨hn,a⟩;have hp:∃n,bi x<=n/\cQ x<=60:=⟨20,a,hn⟩
 have c:¬60<(cQ x:Int):=by omega
 simp[A1,zY,h1,h2,hn,a,c,-fB',-eB'];exactλb=>⟨⟨20,a⟩,aM (dw x) (by simp) rfl⟩
def Qz(z:Corpus×Cond):Prop:=OkCorp z.1/\cQ z.2<=60/\bi z.2<=20/\cQ (dw z.2)<=60/\bi (dw z.2)<=20/\qpn z.1.attrs [] 21 (dw z.2)/\∀i:Nat,i<z.1.toks.length->∃y,qW ⟨z.1,(i:Int), [], []⟩ 21 (dw z.2)=some y
abbrev qir:Spc:=ay (a2 Corpus Cond) Qz (io (Y:=List Int) (Z:=Int)) λz y=>y=(zL z.1 z.2,0)
theorem TY(h1:S sJ=s_rNodes)(h2:S C8=YZ)(h3:S pF=s_rVal)(h4:S wK=Ou 21):aq ya xh S (a2 Corpus Cond) Qz (io (Y:=List Int) (Z:=Int)) λz y=>y=(zL z.1 z.2,0):=by
 rintro⟨c,x⟩ ⟨hc,hn,t,j,p,h,d⟩;simp only at hc hn t j p h d;have hl:(c.toks.length:Int)<=9223372036854775807:=by have:=hc.2.2.1;omega
 have u:=hc.2.2.1;have A:c.attrs.length<=1000:=by rw[hc.1];decide
 have C:qlO (dw x,c.attrs, []):=⟨j,p,21,h,A⟩
 have E:¬60<(cQ x:Int):=by omega
 simp[ya,xh,h1,h2,h3,hn,t,C,E,hl,-fB',-eB'];intro b;refine ah (X:=Value×List Int) [2,3] [3] c.toks.length (λk z=>z.2=Oo c x k) (λz=>[(9, .own 40 z.1)]) (λz=>[(40, .row z.1 bC 1 (z.2.map enc))]) (.slice none 0 0, []) (by simp[Oo]) ?_ ?_ (hh:=by simp[isNilRow])
 ·rintro k ⟨v,l⟩ hk a;simp only at a;obtain⟨y,r⟩:=d k hk;have hp:qg9 21 (c,dw x,(k:Int), [], []):=⟨hc,h,by show(0:Int)<=(k:Int);omega,by show(k:Int)<c.toks.length;omega,rfl,qGb _,λb hb=>(by cases hb),y,r⟩
  have hs:=Sl c x k;have s:=On c x k;rw[<-a]at hs s;have F:(if(qW ⟨c,(k:Int), [], []⟩ 21 (dw x)).getD false=true then[(k:Int)]else[])=if y=true then[(k:Int)]else[]:=by rw[r];rfl
  rw[F]at hs;simp[hk,h4,hp,-fB',-eB'];intro w q;have q:qW ⟨c,(k:Int), [], []⟩ 21 (dw x)=some w:=q;rw[r]at q;cases q;refine⟨λe=>⟨by omega,by omega,λv'=> .inl ?_⟩,λe=> .inl ?_⟩
  ·rw[hs,e];simp
  ·rw[hs,e];simp
 ·rintro⟨v,l⟩ a;simp only at a;simp[-fB',-eB'];have e:zL c x=l:=a.symm;rw[e];exact fM bC rfl
open Go.Proofs
def VF:∀{n m:Nat} {x:Cond},GL n x->n<m->qpn att3 [] m x
 | _,m+1,_, .atom n c h,_=>Pj (.atom 0 _ h) (by omega)
 | _,m+1,_, .any n,_=>qcA (n:=0) .any (by omega)
 | _,m+1,_, .top n v f h,_=>qcA (n:=0) (.top v f h) (by omega)
 | _,m+1,_, .not n k h,hm=>⟨rfl,FL 6 rfl (by decide),λz hz=>by
    rcases qG3.1 hz with rfl;exact VF h (by omega)⟩
 | _,m+1,_, .two n op a b ho h1 h2,hm=>⟨by rcases ho with rfl|rfl<;>rfl,by rcases ho with e|e;exact FL 7 e (by decide);exact FL 8 e (by decide),λz hz=>by
    have hz:z∈ [a,b]:=hz;simp only[qF5,qGi,or_false]at hz;rcases hz with rfl|rfl
    ·exact VF h1 (by omega)
    ·exact VF h2 (by omega)⟩
abbrev LF:Spc:=ay (a2 Corpus Cond) Qz (io (Y:=Int) (Z:=Int)) λz y=>y=(((zL z.1 z.2).length:Int),0)
def Xu(h1:S AI=qir):aq AU zR S (a2 Corpus Cond) Qz (io (Y:=Int) (Z:=Int)) λz y=>y=(((zL z.1 z.2).length:Int),0):=by
 rintro⟨c,x⟩ a;simp[AU,zR,h1,a,-fB',-eB']
structure RBegOk (c:Corpus) (q:Qry):Prop where
 v:qsm c.attrs q
 ch:lD 0 c.texts c.toks.length
 few:c.toks.length<=100000
 fx:np q.pat
 sel:∀x∈am q.pat,Qz (c,x.cond)
def RBegOk.lv{c:Corpus}{q:Qry}(h:RBegOk c q):(am q.pat).length<=100000000:=by
 have:=iR q.pat;have:=h.fx.1;omega
abbrev HR:Spc:=ay (a2 Corpus Qry) (λz=>RBegOk z.1 z.2) (io (Y:=List Int) (Z:=Int)) λz y=>y=(fj z.1 z.2,0)
theorem TR(h1:S vu=YY)(h2:S pD=uh)(h3:S C5=LF):aq xV xc S (a2 Corpus Qry) (λz=>RBegOk z.1 z.2) (io (Y:=List Int) (Z:=Int)) λz y=>y=(fj z.1 z.2,0):=by
 rintro⟨c,q⟩ b;have b:RBegOk c q:=b;have s:=b.v;have l:=b.lv;have d:=b.v.v.pat;simp[xV,xc,h1,h2,s,d,l,-fB',-eB'];intro t;refine ah (X:=Value×List Int) [2,21] [] (am q.pat).length (λk z=>z.2=(fj c q).take k) (λz=>[(7, .own 37 z.1)]) (λz=>[(37, .row z.1 bC 1 (z.2.map enc))]) (.slice none 0 0, []) (by simp) ?_ ?_ (hh:=by simp[isNilRow])
 ·rintro k ⟨v,z⟩ hk hz;have hz:z=(fj c q).take k:=hz;obtain⟨a,j⟩:=aQ hk;obtain⟨_,p⟩:=qFN.1 j;have h:=b.sel a (qFP j);have r:(fj c q)[k]? =some (((zL c a.cond).length:Int)):=by unfold fj;rw[qF6,j];rfl
  have u:z.length=k:=by rw[hz,qGd];unfold fj;rw[qGm];omega
  simp[hk,j,p,h3,h,-fB',-eB'];refine⟨by omega,by omega,λv'=> .inl ?_⟩;rw[hz,<-List.map_take,au r];simp
 ·rintro⟨v,z⟩ hz;have hz:z=(fj c q).take (am q.pat).length:=hz;have:z=fj c q:=by rw[hz,qGt];unfold fj;rw[qGm];omega
  subst this;simp[-fB',-eB'];exact fM bC (by simp[aj])
abbrev Ov:Spc:=ay (a2 Corpus Qry) (λz=>RBegOk z.1 z.2) (io (Y:=List Span) (Z:=Int)) Lt
theorem qbu(h1:S AG=HR)(h2:S C1=HS):aq Do Cm S (a2 Corpus Qry) (λz=>RBegOk z.1 z.2) (io (Y:=List Span) (Z:=Int)) Lt:=by
 rintro⟨c,q⟩ p;have p:RBegOk c q:=p;have A:np q.pat:=p.fx;have d:=p.v.v.pat;simp[Do,Cm,h1,h2,p,A,-fB',-eB'];rintro F ⟨j,J⟩ K;have j:SrcsOf q.pat F:=by
  have j:eA q.pat F:=j;unfold eA at j;rwa [if_pos ⟨d,p.v.v.size⟩]at j
 have L:(fj c q).length=(am q.pat).length:=by unfold fj;simp
 have r:∀s∈F,0<=s.b/\s.b<(fj c q).length:=λs hs=>by
  obtain⟨W,r2,r3,r4⟩:=UF q.pat d 0 0 s ((j.2 s).1 hs);omega
 refine ah (X:=List Span) [6,22] [] F.length (λk z=>z=lB (fj c q) [] (F.take k)/\z.length<=1/\∀s∈z,s∈F) (λz=>[(8,if z.length=0 then .v (.slice none 0 0)else .list 2 (z.map enc))]) (λ_=>[]) [] ⟨rfl,by simp,by simp⟩ ?_ ?_
 ·rintro k z hk ⟨hz,C,t⟩;obtain⟨x,l⟩:=aQ hk;obtain⟨_,u⟩:=qFN.1 l;obtain⟨M,N⟩:=r x (qFP l);obtain⟨nx,w⟩:=aQ (show x.b.toNat<(fj c q).length by omega);obtain⟨_,E⟩:=qFN.1 w;have a:lB (fj c q) [] (F.take (k+1))=lB (fj c q) z [x]:=by rw[au l,GM,<-hz]
  clear hz;cases z with
  | nil=>
    simp[hk,l,u,a,lB,-fB',-eB'];exact⟨[x],⟨rfl,by simp,λs hs=>by simp at hs;subst hs;exact qFP l⟩,by simp⟩
  | cons o O=>
    have:O=[]:=by simpa using C
    subst this;obtain⟨Q,U⟩:=r o (t o (by simp));obtain⟨no,y⟩:=aQ (show o.b.toNat<(fj c q).length by omega);obtain⟨_,I⟩:=qFN.1 y;simp[hk,l,u,w,E,y,I,M,N,Q,U,a,lB,-fB',-eB'];have mx:∀s∈ [x],s∈F:=λs hs=>by simp at hs;subst hs;exact qFP l
    exact⟨λh=>⟨[x],⟨by rw[if_pos h],by simp,mx⟩,by simp⟩,λh=>⟨[o],⟨by rw[if_neg (by omega)],by simp,t⟩,by simp⟩⟩
 ·rintro z ⟨hz,_,_⟩;rw[qFX]at hz;simp[-fB',-eB'];refine⟨z,?_,F,j,by rw[hz]⟩;split
  ·rename_i h;subst h;exact .nil _
  ·exact .same _
end
section

open Go.Proofs


open Cod (enc dec)
variable {S S0:Nat->Spc}
theorem Zm{n:Nat}{c:Corpus}{q:Qry}(hc:qbn c)(k:Xj c)(h:GQ n q)(hn:n<=5):RBegOk c q:=by
 have j:=(Qn hc h hn).1;obtain⟨b,l⟩:=qeF h;refine⟨⟨j.v,λx a=>?_⟩,k.1,j.few,j.fx,λx a=>?_⟩
 all_goals
  have a:=h.cond x a;have p:=qcU a
 ·rw[b,hc.ok.1];exact⟨by show cQ x.cond<=60;omega,by show bi x.cond<=20;omega,21,qcA a (by omega),by show att3.length<=1000;decide⟩
 ·have d:=qpw a;have r:=VJ x.cond;exact⟨hc.ok,by show cQ x.cond<=60;omega,by show bi x.cond<=20;omega,by show cQ (dw x.cond)<=60;omega,by show bi (dw x.cond)<=20;omega,by
   show qpn c.attrs [] 21 (dw x.cond);rw[show c.attrs=att3 from hc.ok.1];exact VF d (by omega),λi (hi:i<c.toks.length)=>Z4 ⟨hc.ok,by show(0:Int)<=(i:Int);omega,by show(i:Int)<c.toks.length;omega,rfl⟩ rfl d (by omega)⟩
def qi5{p:Pat}{F b:List Span}(h:eA p F)(a:eA p b):F=b:=by
 unfold eA at h a;split at h
 ·rename_i e;rw[if_pos e]at a;exact SrcsOf.eq h a
 ·rename_i e;rw[if_neg e]at a;rw[h,a]
def qi4{x:Qry×List Span}{y c:Int}(h:GN x y)(a:GN x c):y=c:=by
 obtain⟨F,d,h⟩:=h;obtain⟨j,b,a⟩:=a;cases qi5 d b;rcases h with⟨rfl,h1⟩|⟨rfl,h1⟩ <;>rcases a with⟨rfl,h2⟩|⟨rfl,h2⟩ <;>first|rfl|exact absurd h1 h2|exact absurd h2 h1
def Ny{n:List Int}{F:List Span} :∀(l out:List Span),out.length<=1->(∀s∈out,s∈F)->(∀s∈l,s∈F)->(lB n out l).length<=1/\∀s∈lB n out l,s∈F
 | [],out,h1,h2,_=>⟨h1,h2⟩
 | x::l,out,h1,h2,h3=>by
   have a:([x]:List Span).length<=1/\∀s∈ [x],s∈F:=⟨by simp,λs hs=>by simp at hs;subst hs;exact h3 _ (by simp)⟩
   show(lB n _ l).length<=1/\∀s∈lB n _ l,s∈F;split
   ·exact Ny l _ a.1 a.2 λs hs=>h3 s (by simp[hs])
   ·split
    ·exact Ny l _ a.1 a.2 λs hs=>h3 s (by simp[hs])
    ·exact Ny l _ h1 h2 λs hs=>h3 s (by simp[hs])
def qfV{c:Corpus}{q:Qry}{x:List Span}{e:Int}(hp:eP ax q.pat=true)(hs:fu q.pat<=256)(h:Lt (c,q) (x,e)):e=0/\x.length<=1/\∀y,GN (q,x) y->y=0:=by
 obtain⟨F,b,h⟩:=h;cases h;obtain⟨h1,h2⟩:=Ny (n:=fj c q) F [] (by simp) (by simp) λs hs=>hs
 refine⟨rfl,h1,λy d=>qi4 d ⟨F,by unfold eA;rw[if_pos ⟨hp,hs⟩];exact b, .inl ⟨rfl,λk z hz=>?_⟩⟩⟩;have a:=(qFN.1 hz).1;exact⟨h2 z (qFP hz),λ_ h0=>by simp only at a;omega⟩
abbrev qqt:Spc:=ay (a2 (List Int) (List Int)) (λ_=>True) (enc (X:=Bool)) λ_ y=>y=true
theorem qbM(h1:S Wp=s_m_New)(h2:S tC=s_m_Corpus)(h3:S vC=OA)(h4:S wN=UM V12)(h5:S Gi=Ov)(h6:S xR=Su)(u:S AF=FF)(w:S nl=sY):
 aq qh oU S (a2 (List Int) (List Int)) (λ_=>True) (enc (X:=Bool)) λ_ y=>y=true:=by
 rintro⟨l,m⟩ -;simp[qh,oU,h1,h2,h3,-fB',-eB'];refineλc s hk hl L q d b1 b2=>?_
 have hc:=qq6 s hk hl;have b:wW V12 c q:=qa5 hc d (by show 3<=5;decide);have A:=Zm hc s d (by show 3<=5;decide);have h:=b.fx;clear h1 h2 h3 hk hl d;simp[h4,h5,b,A,-fB',-eB'];intro x e t y f j;obtain⟨F,C,h1⟩:=j;obtain⟨E,I,J⟩:=qfV b.pat b.size t;subst E;obtain⟨K,k,h2⟩:=t;cases SrcsOf.eq C k;have p:(x,(0:Int))=(y,f):=h2.trans h1.symm;cases p;clear h1 h2;have r:x.length<=100000:=by omega
 have a:(x.length:Int)<=1:=by omega
 simp[h6,u,w,h,r,a,-fB',-eB'];exact J
end
section
open Go.Proofs Cod
variable {dq:Prop}
def qBT{p:Glob}(h:fL p<=0):False:=by rw[DZ]at h;omega
def EW:∀n,TQ dq pE (qis n)
 | 0=>nV λx h=>qlj h
 |n+1=>aY (ag (aa (EW n) ae)) Rr (λ_=>qFR rfl) (TX n rfl)
def WG:TQ dq pE qdR:=
 cw (λn=>EW n) (dB (λx h=>h))
def Jg:∀n,TQ dq sG (YT n)
 | 0=>nV λx h=>qlj h.1
 |n+1=>aY (ag (aa WG (aa (Jg n) ae))) Vl (λ_=>qFR rfl) (Xz n rfl rfl)
def qaU:TQ dq sG Sp:=
 cw (λn=>Jg n) (dB (λx h=>h))
def qaY:TQ dq C8 YZ:=
 ac (ag (aa DD (aa qaU ae))) Vr (XF rfl rfl)
def WH:TQ dq AI qir:=
 ac (ag (aa DD (aa qaY (aa DB (aa (Jh 21) ae))))) Rs (TY rfl rfl rfl rfl)
def Bt:∀n,TQ dq ju (LK n)
 | 0=>nV λx h=>qBT h.1
 |n+1=>aY (ag (aa (Bt n) ae)) Kp (λ_=>qFR rfl) (Me n rfl)
def Mz:TQ dq ju H4:=
 cw (λn=>Bt n) (dB (λx h=>h))
def Bq:∀n,TQ dq jt (LJ n)
 | 0=>nV λx h=>qBT h.1
 |n+1=>aY (ag (aa (Bq n) ae)) Ko (λ_=>qFR rfl) (Md n rfl)
def My:TQ dq jt HY:=
 cw (λn=>Bq n) (dB (λx h=>h))
def Rd:TQ dq xM Sw:=
 ac (ag (aa Mz (aa My ae))) OZ (QU rfl rfl)
def qhK:TQ dq PO s_rIn:=
 ac (ag ae) qf3 (qhv)
def OQ:∀n,TQ dq vt (qdQ n)
 | 0=>nV λx h=>qBT h.1
 |n+1=>aY (ag (aa qhK (aa tY (aa Se (aa sX (aa (OQ n) ae)))))) ZA (λ_=>qFR rfl) (qby n rfl rfl rfl rfl rfl)
def qbT:TQ dq vt YU:=
 cw (λn=>OQ n) (dB (λx h=>⟨fL x.1,qFU _,h⟩))
def Us:TQ dq AH qdS:=
 ac (ag (aa zG ae)) Rq (TW rfl)
def NY:TQ dq vu YY:=
 ac (ag (aa Hx (aa Lu (aa sX (aa EF (aa NX (aa Us (aa Hy (aa DB (aa Rd (aa qbT ae))))))))))) MH (NH rfl rfl rfl rfl rfl rfl rfl rfl rfl rfl)
def Yj:TQ dq C5 LF:=
 ac (ag (aa WH ae)) Vg (Xu rfl)
def Ur:TQ dq AG HR:=
 ac (ag (aa NY (aa zG (aa Yj ae)))) Rl (TR rfl rfl rfl)
def qbR:TQ dq Gi Ov:=
 ac (ag (aa Ur (aa Yi ae))) Zw (qbu rfl rfl)
def YC(a:¬dq):TQ dq zl qqt:=
 ac (ag (aa qmX (aa MD (aa N3 (aa Lw (aa qbR (aa (qfD a) (aa NW (aa Bm ae))))))))) Im (qbM rfl rfl rfl rfl rfl rfl rfl rfl)
end
section
open Go.ChangeShapes Go.WideShapes Go.ChangeAt Go.RowKit
section
variable {H:Type}{ec:TypeId×Value->H}{P:Program}{w:World}{base:Nat}{spare:Nat->Bool}{held:Bool}{tp I:Nat->Prop}
def OpR(tp I:Nat->Prop)(w:World)(cs:List Value)(d:D):Prop:=cs.length=d.cells.length/\∀(k:Nat) (y:Value) (c:D),cs[k]? =some y->d.cells[k]? =some c->y.oneCell'=true/\R tp I w y c
theorem OpR.one{y:Value}{d:D}(h:OpR tp I w [y] d)(a:d.cells=[d]):R tp I w y d:=(h.2 0 y d rfl (by rw[a];rfl)).2
def qjh{t:TypeId}{fuel:Nat}{cs:List Value}{x:DataW H×List MemPlace}(a:P.underlying t=some (.int .i64))(h:DataW.trod ec P w base spare held fuel t cs=some x):∃n:Int,OpR tp I w cs (Cod.enc n):=by
 obtain⟨n,rfl,_,_⟩:=DataW.trod_int a h;refine⟨n,rfl,λk y c h1 h2=>?_⟩;cases k with
 |zero=>cases h1;cases h2;exact⟨rfl, .v _ rfl (λs h=>by cases h)⟩
 |succ k=>simp at h1
theorem Zt{Y:Type}[Cod Y]{t e:TypeId}(ht:P.underlying t=some (.slice e))(hc:P.cellsOf e=Cod.wd Y)(h0:0<Cod.wd Y)
 (O:∀(n:Nat) (cs:List Value) (x:DataW H×List MemPlace),DataW.trod ec P w base spare held n e cs=some x->∃y:Y,OpR tp I w cs (Cod.enc y)) (hI:∀b,b<w.heap.size->I b)
 {fuel:Nat} {cs:List Value} {x:DataW H×List MemPlace} (h:DataW.trod ec P w base spare held fuel t cs=some x) (Q:Cod.wd Y=1:=by rfl):∃l:List Y,OpR tp I w cs (Cod.enc l):=by
 have one:∀(v:Value) (l:List Y),v.oneCell'=true->R tp I w v (.list (Cod.wd Y) (l.map Cod.enc))->OpR tp I w [v] (Cod.enc l):=λv l h1 h2=>⟨rfl,λk y c e1 e2=>by
  cases k with
  |zero=>cases e1;cases e2;exact⟨h1,h2⟩
  |succ k=>simp at e1⟩
 rcases DataW.trod_slice ht h with⟨rfl,_⟩|⟨a,len,cap,S,rest,n,_,rfl,_,_,hl,hm,hlen,C,_⟩
 ·exact⟨[],one _ [] rfl (.nolist none 0 _)⟩
 ·by_cases hz:len=0
  ·subst hz;exact⟨[],one _ [] rfl (.nolist (some a) cap _)⟩
  ·have each:∀i:_root_.Fin len,∃p:List Value×Y,w.cells? base (a.add (i*P.cellsOf e)) (P.cellsOf e)=some p.1/\OpR tp I w p.1 (Cod.enc p.2):=λi=>by
    have h1:=C i i.2;rw[qFQ (by omega)]at h1;obtain⟨cs',h2,h3⟩:=qFM.1 h1;obtain⟨y,hy⟩:=O n cs' _ h3;exact⟨(cs',y),h2,hy⟩
   obtain⟨g,hg⟩:=qHy each;obtain⟨b,off,spot⟩:=a;have cellAt:∀(i:_root_.Fin len) (j:Nat),j<Cod.wd Y->∃v,(g i).1[j]? =some v/\w.cell? ((Addr.add ⟨b,off,spot⟩ (i*Cod.wd Y)).add j)=some v:=λi j N=>by
    have h1:=World.cells?_some (hg i).1;have h2:=h1.2.2 j (by rw[hc];exact N);have h3:j<(g i).1.length:=by rw[h1.2.1,hc];exact N
    refine⟨(g i).1[j],qFQ h3,?_⟩;rw[hc]at h2;rw[h2,qFQ h3]
   have hs:spot=none:=by
    obtain⟨v,_,h2⟩:=cellAt ⟨0,by omega⟩ 0 h0;have:=World.cell?_spot h2;simpa [Addr.add]using this
   subst hs;have s:∀(o n:Nat),Addr.add ⟨b,o,none⟩ n=⟨b,o+n,none⟩:=λo n=>by
    unfold Addr.add;split
    ·rename_i e;subst e;rfl
    ·rfl
   have r:∀(i:_root_.Fin len) (j:Nat),j<Cod.wd Y->∃v,(g i).1[j]? =some v/\w.cell? ⟨b,off+ (i*Cod.wd Y+j),none⟩=some v:=λi j N=>by
    obtain⟨v,h1,h2⟩:=cellAt i j N;refine⟨v,h1,?_⟩;rw[s,s]at h2;rw[<-qHW];exact h2
   have hb:b<w.heap.size:=by
    obtain⟨v,_,h2⟩:=r ⟨0,by omega⟩ 0 h0;unfold World.cell? at h2;by_cases E:b<w.heap.size
    ·exact E
    ·simp only[qHB (Nat.le_of_not_lt E)]at h2;cases h2
   let es:List Y:=List.ofFn λi=>(g i).2
   have u:es.length=len:=by simp[es]
   have F:∀i:_root_.Fin len,(es.map Cod.enc)[(i:Nat)]? =some (Cod.enc (g i).2):=λi=>by
    rw[qF6];have:es[(i:Nat)]? =some (g i).2:=by simp[es]
    rw[this];rfl
   have U:∀d∈es.map Cod.enc,d.kn=true/\d.cells.length=Cod.wd Y:=λd J=>by
    obtain⟨y,_,rfl⟩:=qFV.1 J;exact⟨Cod.kn y,Cod.wid y⟩
   have q:∀(k:Nat) (c:D),(bq (es.map Cod.enc))[k]? =some c->∃v,w.cell? ⟨b,off+k,none⟩=some v/\v.oneCell'=true/\R tp I w v c:=λk c hk=>by
    have K:=(qFN.1 hk).1;rw[ba (λd J=>(U d J).2),qGm,u]at K;have L:k=(k/Cod.wd Y) *Cod.wd Y+k % Cod.wd Y:=by have:=qHe k (Cod.wd Y);rw[qHS]at this;omega
    have A:k % Cod.wd Y<Cod.wd Y:=qHd _ h0;have W:k/Cod.wd Y<len:=qHI (by rw[qHS];exact K);have Z:=ic (es:=es.map Cod.enc) (λd J=>(U d J).2) (i:=k/Cod.wd Y) A;rw[<-L,hk,F ⟨k/Cod.wd Y,W⟩]at Z;simp only[qGc]at Z;obtain⟨v,h1,h2⟩:=r ⟨k/Cod.wd Y,W⟩ (k % Cod.wd Y) A;simp only at h2;rw[<-L]at h2;exact⟨v,h2,(hg ⟨k/Cod.wd Y,W⟩).2.2 _ v c h1 Z.symm⟩
   have hR:R tp I w (.slice (some ⟨b,off,none⟩) len cap) (.list (Cod.wd Y) (es.map Cod.enc)):=by
    have M:(es.map (Cod.enc (X:=Y))).length=len:=by simp[u]
    rw[<-M];have rd:∀(k:Nat) (c:D),(bq (es.map Cod.enc))[k]? =some c->w.cell? ⟨b,off+k,none⟩=some ((w.cell? ⟨b,off+k,none⟩).getD Go.undef):=λk c hk=>by
     obtain⟨v,h1,_⟩:=q k c hk;rw[h1];rfl
    refine .list b off cap _ (es.map Cod.enc) (λk=>(w.cell? ⟨b,off+k,none⟩).getD Go.undef) (hI b hb) (by rw[M];exact hl) hm (λh=>absurd Q h) U rd (λk c hk=>?_) (λk c hk=>?_)
    ·obtain⟨v,h1,h2,_⟩:=q k c hk;rw[h1];exact h2
    ·obtain⟨v,h1,_,h2⟩:=q k c hk;rw[h1];exact h2
   exact⟨es,one _ es rfl hR⟩
end
variable {dq:Prop}
section
variable {H:Type}{ec:TypeId×Value->H}{P:Program}{w:World}{base:Nat}{spare:Nat->Bool}{held:Bool}{tp I:Nat->Prop}
end
abbrev qxQ(w:World):Nat->Prop:=be (λ_=>False) (λ_=>False) dj w
def qjx{w:World}{b:Nat}(h:b<w.heap.size):qxQ w b:=⟨h,λh=>h,λh=>h,λ⟨i,r,h,_⟩=>by simp[dj]at h⟩
end
section
open Go.ChangeShapes Go.WideShapes Go.ChangeAt Go.RowKit
section
variable {H:Type}{ec:TypeId×Value->H}{P:Program}{w:World}{base:Nat}{spare:Nat->Bool}{held:Bool}{tp I:Nat->Prop}
end
open Cod (enc dec)
instance:Cod UInt8 where
 wd:=1
 enc n:= .v (.int .u8 n.toNat)
 dec| .v (.int .u8 n)=>if 0<=n/\n<=255 then some (UInt8.ofNat n.toNat)else none|_=>none
 kn _:=rfl
 wid _:=rfl
 dec_enc n:=by
  have:=n.toNat_lt;simp only;rw[if_pos (by omega)];congr 1;rw[qHz,UInt8.ofNat_toNat]
 le d x h:=by
  split at h
  ·split at h
   ·rename_i n hn;cases h;have e:((UInt8.ofNat n.toNat).toNat:Int)=n:=by
     rw[qHf];omega
    show FrzTo dj _ (.v (.int .u8 ((UInt8.ofNat n.toNat).toNat:Int)));rw[e];exact .same _
   ·cases h
  ·cases h
variable {dq:Prop}
section
variable {H:Type}{ec:TypeId×Value->H}{P:Program}{w:World}{base:Nat}{spare:Nat->Bool}{held:Bool}{tp I:Nat->Prop}
end
theorem qcI{P:Program}{f:Nat}{X:Type}{A:fN X}{p:X->Prop}{q:X->Bool->Prop}(h:Tri dq P f (ay A p (Cod.enc (X:=Bool)) q).pt)(l:∀x y,q x y->y=true){w:World}{vs:List Value}{ds:List D}{x:X}(hp:p x)(hlen:vs.length=ds.length)
 (t:∀(k:Nat) (y:Value) (c:D),vs[k]? =some y->ds[k]? =some c->R (λ_=>False) (qxQ w) w y c) (a:A.dec ds=some x) (u:GlW (λ_=>False) (λ_=>False) w):
 Calls P f vs.toArray w λe w'=>e= .returned (.bool true)/\Below w.heap.size w w':=by
 obtain⟨_,hc⟩:=h (λ_=>False) (λ_=>False) w vs ds dj 0 (λr H'=>r= .v (.bool true)) (λb h=>h.elim) ⟨λb h=>h.elim,u.mono (λ_ h=>h) (λb ⟨i,r,h,_⟩=>by simp[dj]at h)⟩
  ⟨λi j r s b h=>by simp[dj]at h,λi r b h=>by simp[dj]at h,λi r h=>by simp[dj]at h⟩ hlen t
  (by rw[me,a];exact⟨hp,λy C=>by rw[l x y C];rfl⟩)
 refine hc.mono ?_;rintro e w' ⟨v,r,H',E,rfl,F,_,_,_,hs,_,_,J⟩;subst F;have d:=J.inv_v;subst d;exact⟨rfl,hs.os,hs.tape,hs.output,hs.size,λk hk=>hs.same k hk (λ⟨i,r,h,_⟩=>by simp[dj]at h) (λh=>h)⟩
end
end Go.Gv
