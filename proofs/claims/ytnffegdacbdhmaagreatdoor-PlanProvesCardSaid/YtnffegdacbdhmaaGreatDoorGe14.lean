/- T33 -/
import Derived.Laws.RangeString
import Derived.Test.YtnffegdacbdhmaaGreatDoorGe13
set_option linter.all false
set_option maxRecDepth 100000
set_option maxHeartbeats 0
open Bool renaming forall_bool → fB', exists_bool → eB'
namespace Go.Gv
section
open Cod (enc dec)
variable {dq:Prop}
structure qEX where
 v:Value
 v':Value
 t:Tbk
def vO(v v':Value)(t:Tbk):List D:=[.own 990 v, .v (.int .u64 t.fi.val), .v (.int .u64 t.la.val), .own 991 v', .v (.bool t.nul)]
def rT(v:Value)(l:List (List Rng)):Res:= .row v fw 1 (l.map enc)
def rU(v:Value)(l:List U64):Res:= .row v gm 1 (l.map enc)
def tbB:Nj qEX:=⟨[990,991],λx=>vO x.v x.v' x.t,λx=>[(990,rT x.v x.t.lvs),(991,rU x.v' x.t.fol)],λ_=>rfl⟩
section
variable {Y Z:Type}
def qms(A:dP Z)(er:Y->D)(F:Tbk->Z->Option (Tbk×Y)):Spc:=qsw tbB A er (λs z=>∃r,F s.t z=some r) (λs z a y=>F s.t z=some (a.t,y))
def Ay(H:ab)(id b:Nat)(v v':Value)(t:Tbk):ab:=ai (ai (ai H 991 (some (rU v' t.fol))) 990 (some (rT v t.lvs))) id (some (.box b (vO v v' t)))
def XW(er:Y->D)(F:Tbk->Z->Option (Tbk×Y))(id b:Nat)(r a c:Option Res)(o:Option Z)(H:ab)(K:D->ab->Prop):Prop:=
 ∃v v' t,r=some (.box b (vO v v' t))/\a=some (rT v t.lvs)/\c=some (rU v' t.fol)/\id≠990/\id≠991/\eL o λz=>eL (F t z) λq=>∀w w',K (er q.2) (Ay H id b w w' q.1)
@[congr] theorem qwX{er:Y->D}{F:Tbk->Z->Option (Tbk×Y)}{id b:Nat}{r r' d a h c:Option Res}{o j:Option Z}{H:ab}{K:D->ab->Prop}(h1:r=r')(h2:d=a)(h3:h=c)(h4:o=j):XW er F id b r d h o H K=XW er F id b r' a c j H K:=by subst h1;subst h2;subst h3;subst h4;rfl
def G5{X:Type}[Cod X]:∀{l l':List X},l.map enc=l'.map enc->l=l'
 | [], [],_=>rfl
 | [],_::_,h=>by simp at h
 | _::_, [],h=>by simp at h
 | a::l,b::l',h=>by
   rw[qGb,qGb,qGd]at h;rw[aP h.1,G5 h.2]
def qiU{v v':Value}{l l':List (List Rng)}(h:rT v l=rT v' l'):v=v'/\l=l':=by
 unfold rT at h;injection h with h1 h2 h3 h4;exact⟨h1,G5 h4⟩
def qiV{v v':Value}{l l':List U64}(h:rU v l=rU v' l'):v=v'/\l=l':=by
 unfold rU at h;injection h with h1 h2 h3 h4;exact⟨h1,G5 h4⟩
def qhO{b b':Nat}{v v' w w':Value}{t t':Tbk}(h:Res.box b (vO v v' t)=Res.box b' (vO w w' t'))(h1:rT v t.lvs=rT w t'.lvs)(h2:rU v' t.fol=rU w' t'.fol):b=b'/\v=w/\v'=w'/\t=t':=by
 obtain⟨d,a⟩:=qiU h1;obtain⟨j,c⟩:=qiV h2;obtain⟨hb,hc⟩:=Res.box.inj h;simp only[vO,qGd,D.own.injEq,D.v.injEq,qH6,Value.bool.injEq,true_and,and_true]at hc;obtain⟨_,⟨c1,c2,_,c3⟩⟩:=hc;refine⟨hb,d,j,?_⟩;obtain⟨a1,⟨a2⟩,⟨a3⟩,a4,k⟩:=t;obtain⟨b1,⟨b2⟩,⟨l⟩,p,q⟩:=t';simp only at a c c1 c2 c3;subst a;subst c;subst c1;subst c2;subst c3;rfl
def qhP(x:qEX)(H:ab)(id b:Nat):ai (gS (tbB.hp x) H) id (some (.box b (tbB.ce x)))=Ay H id b x.v x.v' x.t:=by
 rfl
theorem qbD(A:dP Z)(er:Y->D)(F:Tbk->Z->Option (Tbk×Y))(d i b:Nat)(ds:List D)(H:ab)(K:D->ab->Prop):(qms A er F).pt d (.bptr i b 0::ds) H K=XW er F i b (H i) (H 990) (H 991) (A.dec ds) H K:=by
 refine propext ⟨λh=>?_,λh=>?_⟩
 ·obtain⟨id,b',x,z,l,h1,h2,h3,h4,h5,h6,r⟩:=h;cases h1;simp only[tbB,qFP,qGi,or_false,not_or]at h5;refine⟨x.v,x.v',x.t,h3,h4 (990,rT x.v x.t.lvs) (by simp[tbB]),h4 (991,rU x.v' x.t.fol) (by simp[tbB]),h5.1,h5.2,?_⟩;rw[h2];obtain⟨⟨t',y⟩,k⟩:=h6;show eL (F x.t z) _;rw[k];intro w w';have:=r ⟨w,w',t'⟩ y k;rwa [qhP]at this
 ·obtain⟨v,v',t,h1,h2,h3,h4,h5,h6⟩:=h;cases hz:A.dec ds with
  |none=>rw[hz]at h6;exact h6.elim
  | some z=>
    rw[hz]at h6;have h6:eL (F t z) λq=>∀w w',K (er q.2) (Ay H i b w w' q.1):=h6
    cases a:F t z with
    |none=>rw[a]at h6;exact h6.elim
    | some q=>
      rw[a]at h6;have h6:∀w w',K (er q.2) (Ay H i b w w' q.1):=h6;refine⟨i,b,⟨v,v',t⟩,z,ds,rfl,hz,h1,λp hp=>?_,by simp[tbB,h4,h5],⟨q,a⟩,λj y c=>?_⟩
      ·simp only[tbB,qFP,qGi,or_false]at hp;rcases hp with rfl|rfl
       ·exact h2
       ·exact h3
      ·have c:F t z=some (j.t,y):=c;rw[a]at c;cases c;rw[qhP];exact h6 j.v j.v'
theorem qn7(A:dP Z)(er:Y->D)(F:Tbk->Z->Option (Tbk×Y))(b:Nat)(ds:List D):qmm 0 (qms A er F).pt (.bptr 0 b 0::ds):=by
 refine⟨λR=>XW er F 0 b (R 0) (R 990) (R 991) (A.dec ds) R λ_ _=>True,λR d u=>∃v v' t z q w w',R 0=some (.box b (vO v v' t))/\R 990=some (rT v t.lvs)/\R 991=some (rU v' t.fol)/\A.dec ds=some z/\F t z=some q/\d=er q.2/\u=[(0, .box b (vO w w' q.1)),(990,rT w q.1.lvs),(991,rU w' q.1.fol)],λt H K=>?_⟩;rw[qbD];have l:uK H (some 0) 0=H 0:=by simp only[uK];exact if_pos rfl
 have p:uK H (some 0) 990=H 990:=by simp only[uK];exact if_pos rfl
 have r:uK H (some 0) 991=H 991:=by simp only[uK];exact if_pos rfl
 show _↔XW er F 0 b (uK H (some 0) 0) (uK H (some 0) 990) (uK H (some 0) 991) (A.dec ds) (uK H (some 0)) (λ_ _=>True)/\∀d u,(∃v v' t z q w w',uK H (some 0) 0=some (.box b (vO v v' t))/\uK H (some 0) 990=some (rT v t.lvs)/\uK H (some 0) 991=some (rU v' t.fol)/\A.dec ds=some z/\F t z=some q/\d=er q.2/\u=[(0, .box b (vO w w' q.1)),(990,rT w q.1.lvs),(991,rU w' q.1.fol)])->K d (jX H (some 0) u);rw[l,p,r];have hp:∀(w w':Value) (q:Tbk),jX H (some 0) [(0, .box b (vO w w' q)),(990,rT w q.lvs),(991,rU w' q.fol)]=Ay H 0 b w w' q:=λw w' q=>by
  funext i;simp only[jX,Ay,ai];by_cases h0:i=0
  ·subst h0;rfl
  ·by_cases h1:i=990
   ·subst h1;rfl
   ·by_cases h2:i=991
    ·subst h2;rfl
    ·have e:([(0, .box b (vO w w' q)),(990,rT w q.lvs),(991,rU w' q.fol)]:List (Nat×Res)).lookup i=none:=by
      have s:(i==0)=false:=by simp[h0]
      have x:(i==990)=false:=by simp[h1]
      have y:(i==991)=false:=by simp[h2]
      simp only[List.lookup,s,x,y]
     rw[e,if_neg h0,if_neg h1,if_neg h2];split<;>rfl
 constructor
 ·rintro⟨v,v',t,h1,h2,h3,h4,h5,h6⟩;cases hz:A.dec ds with
  |none=>rw[hz]at h6;exact h6.elim
  | some z=>
    rw[hz]at h6;have h6:eL (F t z) λq=>∀w w',K (er q.2) (Ay H 0 b w w' q.1):=h6
    cases a:F t z with
    |none=>rw[a]at h6;exact h6.elim
    | some q=>
      rw[a]at h6;have h6:∀w w',K (er q.2) (Ay H 0 b w w' q.1):=h6;refine⟨⟨v,v',t,h1,h2,h3,h4,h5,?_⟩,?_⟩
      ·show eL (F t z) _;rw[a];exactλ_ _=>trivial
      ·rintro d u ⟨v1,C,t1,J,L,w,w',c,h,j,E,k,rfl,rfl⟩;rw[h1]at c;rw[h2]at h;rw[h3]at j;obtain⟨_,_,_,rfl⟩:=qhO (qFT c) (qFT h) (qFT j);cases E;rw[a]at k;cases k;rw[hp];exact h6 w w'
 ·rintro⟨⟨v,v',t,h1,h2,h3,h4,h5,h6⟩,I⟩;refine⟨v,v',t,h1,h2,h3,h4,h5,?_⟩;cases hz:A.dec ds with
  |none=>rw[hz]at h6;exact h6.elim
  | some z=>
    rw[hz]at h6;have h6:eL (F t z) λq=>∀w w':Value,True:=h6
    show eL (F t z) _;cases a:F t z with
    |none=>rw[a]at h6;exact h6.elim
    | some q=>
      intro w w';have:=I (er q.2) _ ⟨v,v',t,z,q,w,w',h1,h2,h3,hz,a,rfl,rfl⟩;rwa [hp]at this
def qjd(A:dP Z)(er:Y->D)(F:Tbk->Z->Option (Tbk×Y))(b:Nat)(dst:Option Nat)(ds:List D)(H:ab)(K:D->ab->Prop):O3 0 dst (qms A er F) (.bptr 0 b 0::ds) H K=XW er F 0 b (H 0) (H 990) (H 991) (A.dec ds) H K:=by
 rw[<-qbD A er F (dst.getD 0)];exact propext ⟨λh=>h.2,λh=>⟨qn7 A er F b ds,h⟩⟩
def qqJ(er:Y->D)(F:Tbk->Z->Option (Tbk×Y))(id b:Nat)(v v':Value)(f l:Int)(n:Bool)(lv:List (List Rng))(fo:List U64)(o:Option Z)(H:ab)(K:D->ab->Prop):
 XW er F id b (some (.box b [.own 990 v, .v (.int .u64 f), .v (.int .u64 l), .own 991 v', .v (.bool n)])) (some (.row v fw 1 (lv.map enc))) (some (.row v' gm 1 (fo.map enc))) o H K=(id≠990/\id≠991/\eL o λz=>eL (F ⟨lv,⟨f⟩,⟨l⟩,fo,n⟩ z) λq=>∀w w',K (er q.2) (Ay H id b w w' q.1)):=by
 refine propext ⟨λ⟨w,w',t,h1,h2,h3,h4,h5,h6⟩=>⟨h4,h5,?_⟩,λh=>⟨v,v',⟨lv,⟨f⟩,⟨l⟩,fo,n⟩,rfl,rfl,rfl,h.1,h.2.1,h.2.2⟩⟩;obtain⟨_,_,_,e⟩:=qhO (t:=⟨lv,⟨f⟩,⟨l⟩,fo,n⟩) (t':=t) (b:=b) (b':=b) (qFT h1) (qFT h2) (qFT h3);subst e;exact h6
def qaW(er:Y->D)(b:Nat)(post:Tbk->Y->Prop)(r:D)(H:ab):Prop:=Mj tbB er b (λs y=>post s.t y) r H
def qpP{er:Y->D}{b:Nat}{post:Tbk->Y->Prop}{r:D}{H:ab}(v v':Value)(t:Tbk)(y:Y)(a:FrzTo (λi=>if i=0\/i=990\/i=991 then none else H i) r (er y))(h0:H 0=some (.box b (vO v v' t)))(h1:H 990=some (rT v t.lvs))(h2:H 991=some (rU v' t.fol))(c:post t y):qaW er b post r H:=
 ⟨⟨v,v',t⟩,y,by simpa [tbB]using a,h0,λp hp=>by
  simp only[tbB,qFP,qGi,or_false]at hp;rcases hp with rfl|rfl
  ·exact h1
  ·exact h2,c⟩
def LA(cc:CC)(rs:List aj)(S:Nat->Spc)(A:dP Z)(er:Y->D)(F:Tbk->Z->Option (Tbk×Y)):Prop:=
 ∀b v v' t z r,F t z=some r->vc S cc (vE rs λd H'=>qaW er b (λt' y=>r=(t',y)) d H') (dR (.bptr 0 b 0::A.view z)) (Ay bS 0 b v v' t)
variable {P:Program}{S:Nat->Spc}{f:Nat}{im:List Nat}{cc:CC}{rs:List aj}{N:Nat}
def wk{A:dP Z}{er:Y->D}{F:Tbk->Z->Option (Tbk×Y)}(j:∀f,Tri dq P f (S f).pt)(h:zY P f im cc rs N)(k:∀z,(A.view z).length+1<=N)(l:LA cc rs S A er F):Tri dq P f (qms A er F).pt:=
 wl (by simp[tbB]) j h k λb x z hp=>by
  obtain⟨r,a⟩:=hp;rw[qhP];have:=l b x.v x.v' x.t z r a;have e:(λ(d:D) (H':ab)=>Mj tbB er b (λc y=>F x.t z=some (c.t,y)) d H')=λd H'=>qaW er b (λt' y=>r=(t',y)) d H':=by
   funext d H';unfold qaW;congr 1;funext c y;rw[a];exact propext ⟨λh=>qFT h,λh=>congrArg some h⟩
  rw[e];exact this
end
@[simp] theorem qzE(m:U64)(i:Nat):decide (qcQ .u64 (qfI .u64 m.val i) 1=1)=qg5 m i:=i' rfl
end
section
open Go.Proofs
def Cl:CC:=gq Tryz.f290 [1,2024006,2022006,2020006] { cu:=[1,4],kz:=[990,991] } _
def Bk:List aj:=[.tmp 2]
def VC:FO En [1,2024006,2022006,2020006] Cl Bk 26:=fo
def lZ:CC:=gq Tryz.f327 [] { bx:=[0],kz:=[990,991] } _
def lr:List aj:=[]
def DU:FO ir [] lZ lr 31:=fo
def jB:CC:=gq Tryz.f318 [4,5] { ke:=[0],kz:=[990,991] } _
def ji:List aj:=[.cell 6 true 3]
def Bz:FO dZ [4,5] jB ji 42:=fo
def db:CC:=gq Tryz.f308 [3,3060000,1031990,2033000,2006006] { bx:=[0],kz:=[990,991] } _
def cX:List aj:=[.cell 4 true 3]
def C0:FO dy [3,3060000,1031990,2033000,2006006] db cX 98:=fo
def jA:CC:=gq Tryz.f319 [3,3095000,2005005] { bx:=[0],kz:=[990,991] } _
def jh:List aj:=[.cell 4 true 3]
def By:FO kE [3,3095000,2005005] jA jh 98:=fo
def di:CC:=gq Tryz.f328 [4,3035000,3036000,2009009] { bx:=[0],kz:=[990,991] } _
def df:List aj:=[.cell 6 true 3]
def zl:FO fm [4,3035000,3036000,2009009] di df 39:=fo
def gR:CC:=gq Tryz.f291 [] { ke:=[0],kz:=[990,991] } _
def gF:List aj:=[.tmp 6]
def DV:FO nj [] gR gF 35:=fo
open Cod (enc dec)
variable {S S0:Nat->Spc}
@[simp] theorem qyJ(t:Tbk):Tbk.mk t.lvs t.fi t.la t.fol t.nul=t:=i' rfl
abbrev UV:Spc:=qms (a2 U64 U64) Wh Je
def qd4(fr to:U64):∀(l:List U64) (i:Nat),(qd5 fr to i l).length=l.length
 | [],_=>rfl
 |f::l,i=>by rw[qd5,qGn,qGn,qd4 fr to l (i+1)]
def Zo{fr to f:U64} :∀{l:List U64} {i k:Nat},l[k]? =some f->qd5 fr to i (l.take k) ++ (if qg5 fr (i+k)=true then qnC f to else f)::l.drop (k+1)=qd5 fr to i (l.take (k+1)) ++l.drop (k+1)
 | [],i,k,h=>by simp at h
 | g::l,i,0,h=>by
   simp at h;subst h;simp[qd5]
 | g::l,i,k+1,h=>by
   simp at h;have:=Zo (fr:=fr) (to:=to) (i:=i+1) h;rw[show i+1+k=i+ (k+1)by omega]at this;simp only[qIb,qd5,qGp,List.drop_succ_cons];rw[this]
theorem qqr:LA lZ lr S (a2 U64 U64) Wh Je:=by
 rintro b v v' ⟨lv,fi,la,fo,w⟩ ⟨fr,to⟩ r h;unfold Je at h;simp only at h;split at h
 ·rename_i hlen;cases h;have hl:(fo.length:Int)<=9223372036854775807:=by omega
  simp[lZ,lr,Ay,rT,rU,vO,hl,-fB',-eB'];refine ah (X:=List U64) [0,1,2] [] fo.length (λk x=>x=qd5 fr to 0 (fo.take k) ++fo.drop k) (λx=>[]) (λx=>[(0, .box b [.own 990 v, .v (.int .u64 fi.val), .v (.int .u64 la.val), .own 991 v', .v (.bool w)]),(990, .row v fw 1 (lv.map enc)),(991, .row v' gm 1 (x.map enc))]) fo (by simp[qd5]) ?_ ?_
  ·rintro k x hk d;obtain⟨f,A⟩:∃f,fo[k]? =some f:=⟨_,qFH hk⟩
   have a:(qd5 fr to 0 (fo.take k)).length=k:=by rw[qd4,qGc];omega
   have q:x.length=fo.length:=by rw[d,qGa,a,qGT];omega
   have j:x[k]? =some f:=by
    rw[d,qF9 (by omega),a,qHy,qGC];simpa using A
   have s:x.drop (k+1)=fo.drop (k+1):=by
    rw[d,List.drop_append,a,List.drop_drop,qGX (by rw[a];omega)];simp
   have t:x.take k=qd5 fr to 0 (fo.take k):=by
    rw[d,List.take_append,a,qHy,qHq,qGW,qGD (by rw[a];omega)]
   have l:∀g,x.set k g=qd5 fr to 0 (fo.take k) ++g::fo.drop (k+1):=λg=>by
    rw[qHH,if_pos (by omega),t,s]
   have c:=Zo (fr:=fr) (to:=to) (i:=0) A;rw[qGs,<-l]at c;have u:k<x.length:=by omega
   obtain⟨_,p⟩:=qFG.1 j;simp[u,j,p,hk,q,-fB',-eB'];refine⟨λhb=>?_,λhb=>?_⟩
   ·rw[if_pos hb]at c;left;rw[<-List.map_drop,<-qHx,<-c,qHA];rfl
   ·rw[if_neg (by simp[hb])]at c;rw[show x.set k f=x from by rw[<-p];exact List.set_getElem_self _]at c;exact .inl c
  ·rintro x d;rw[qFY,qGw,qGW]at d;subst d;simp[-fB',-eB'];exact qpP (er:=Wh) (y:=()) v v' ⟨lv,fi,la,qd5 fr to 0 fo,w⟩ (.same _) rfl rfl rfl rfl
 ·cases h
attribute [simp] qbD qjd
@[simp] theorem qwW{Y Z:Type}(er:Y->D)(F:Tbk->Z->Option (Tbk×Y))(id b:Nat)(v v':Value)(f l:Int)(n:Bool)(lv:List (List Rng))(fo:List U64)(o:Option Z)(H:ab)(K:D->ab->Prop):
 XW er F id b (some (.box b [.own 990 v, .v (.int .u64 f), .v (.int .u64 l), .own 991 v', .v (.bool n)])) (some (.row v fw 1 (lv.map enc))) (some (.row v' gm 1 (fo.map enc))) o H K=(id≠990/\id≠991/\eL o λz=>eL (F ⟨lv,⟨f⟩,⟨l⟩,fo,n⟩ z) λq=>∀w w',K (er q.2) (ai (ai (ai H 991 (some (.row w' gm 1 (q.1.fol.map enc)))) 990 (some (.row w fw 1 (q.1.lvs.map enc)))) id (some (.box b [.own 990 w, .v (.int .u64 q.1.fi.val), .v (.int .u64 q.1.la.val), .own 991 w', .v (.bool q.1.nul)])))):=qqJ er F id b v v' f l n lv fo o H K
abbrev Ns:Spc:=qms (a2 Prt Prt) (enc (X:=Prt)) CH
def AJ{b:Nat}{post:Tbk->Prt->Prop}{d:D}{H:ab}(v v':Value)(t:Tbk)(y:Prt)(a:d=enc y)(h0:H 0=some (.box b (vO v v' t)))(h1:H 990=some (rT v t.lvs))(h2:H 991=some (rU v' t.fol))(c:post t y):qaW enc b post d H:=
 qpP (er:=enc) (y:=y) v v' t (by rw[a];exact .same _) h0 h1 h2 c
def qhs(h1:S ir=UV):LA jB ji S (a2 Prt Prt) (enc (X:=Prt)) CH:=by
 rintro b v v' ⟨lv,fi,la,fo,d⟩ ⟨⟨h,j,an⟩,⟨k,bl,c⟩⟩ r a;unfold CH at a;simp only at a;obtain⟨q,hl,rfl⟩:=qFR.1 a;cases an<;>cases c<;>simp[jB,ji,Ay,rT,rU,vO,h1,hl,-fB',-eB'] <;>intro b1 w w'<;>exact AJ w w' q.1 _ rfl rfl rfl rfl ⟨rfl,rfl⟩
def qjt{set f:U64}{l:List U64}{k:Nat}(h:l[k]? =some f)(m:U64):qpG set k (l.drop k) m=qpG set (k+1) (l.drop (k+1)) (if qg5 set k=true then qnC m f else m):=by
 obtain⟨h1,h2⟩:=qFG.1 h;rw[qGm h1,h2,qpG]
abbrev OA(n:Nat):Spc:=qms (a1 Rx) (enc (X:=Prt)) (Hu n).b
abbrev qih(n:Nat):Spc:=qms (a1 Rx) (enc (X:=Prt)) (Hu n).r
abbrev qbN(n:Nat):Spc:=qms (a2 Rx Int) (enc (X:=Prt)) (Hu n).o
def WC{X:Type}{l:List X}{k:Nat}(h:k<l.length):∃x,l[k]? =some x:=⟨_,qFH h⟩
def xo{X:Type}{l:List X}{k:Nat}{x:X}(h:l[k]? =some x):l.drop k=x::l.drop (k+1):=by
 obtain⟨h1,h2⟩:=qFG.1 h;rw[qGm h1,h2]
set_option maxHeartbeats 1000000 in
theorem qmW(n:Nat)(h1:S dy=OA n)(h2:S kE=qih n)(h3:S dZ=Ns):LA db cX S (a1 Rx) (enc (X:=Prt)) (Hu (n+1)).b:=by
 rintro b v v' t ⟨op,mn,mx,rs,ks⟩ r hF;replace hF:qsy (Hu n).b (Hu n).r t ⟨op,mn,mx,rs,ks⟩=some r:=hF;unfold qsy at hF;simp only at hF;split at hF
 ·cases hF
 rename_i hok;have hok1:t.lvs.length<=1000/\t.fol.length<=1000:=by
  cases hb:VD t with
  |true=>exact of_decide_eq_true hb
  |false=>exact absurd (.inl hb) hok
 have hkl:ks.length<=1000:=by
  have:¬1000<ks.length:=λh=>hok (.inr h)
  omega
 obtain⟨hlv,hfo⟩:=hok1;have hkl':(ks.length:Int)<=9223372036854775807:=by omega
 have hlv':(t.lvs.length:Int)<=9223372036854775807:=by omega
 split at hF
 ·rename_i e;subst e;obtain rfl:=qFT hF;simp[db,cX,Ay,rT,rU,vO,hlv',-fB',-eB'];refineλb1=>⟨by omega,by omega,λw=>⟨by omega,by omega,λw'=>?_⟩⟩
  exact AJ w w' ⟨t.lvs++ [rs],t.fi,t.la,t.fol++ [⟨0⟩],t.nul⟩ ⟨⟨Yi .u64 1 t.lvs.length⟩,⟨Yi .u64 1 t.lvs.length⟩,false⟩ rfl rfl (by simp[rT,ai]) (by simp[rU,ai]) ⟨rfl,rfl⟩
 rename_i e1;split at hF
 ·rename_i e;subst e;simp[db,cX,Ay,rT,rU,vO,hkl',-fB',-eB'];intro b4 b6;refine ah (X:=Tbk×Prt×Value×Value) [0,4,6,50] [4] ks.length (λk x=>qvQ (Hu n).b (ks.drop k) x.1 x.2.1=some r) (λx=>[]) (λx=>[(0, .box b [.own 990 x.2.2.1, .v (.int .u64 x.1.fi.val), .v (.int .u64 x.1.la.val), .own 991 x.2.2.2, .v (.bool x.1.nul)]),(990, .row x.2.2.1 fw 1 (x.1.lvs.map enc)),(991, .row x.2.2.2 gm 1 (x.1.fol.map enc)),(6, .box b6 [.v (.int .u64 x.2.1.first.val), .v (.int .u64 x.2.1.last.val), .v (.bool x.2.1.nul)])]) (t,GZ,v,v') (by simpa using hF) ?_ ?_ (hh:=by simp[GZ])
  ·rintro k ⟨t,p,w,w'⟩ hk hx;obtain⟨y,hy⟩:=WC hk;obtain⟨_,hgy⟩:=qFG.1 hy;rw[xo hy,qvQ]at hx;obtain⟨q,hq,hx⟩:=qFF.1 hx;obtain⟨c,hc,hx⟩:=qFF.1 hx;simp[hk,hy,hgy,h1,h3,hq,hc,-fB',-eB'];exactλu u'=>⟨c.1,c.2,hx,u,u', .inl ⟨rfl,rfl,rfl,rfl,rfl⟩, .inl ⟨rfl,rfl⟩, .inl ⟨rfl,rfl⟩, .inl ⟨rfl,rfl,rfl⟩⟩
  ·rintro⟨t,p,w,w'⟩ hx;rw[qGw,qvQ]at hx;obtain rfl:=qFT hx;simp[-fB',-eB'];exact AJ w w' t p rfl rfl rfl rfl ⟨rfl,rfl⟩
 rename_i e2;split at hF
 ·rename_i e;subst e;simp[db,cX,Ay,rT,rU,vO,hkl',-fB',-eB'];intro b4 b9;refine ah (X:=Tbk×Prt×Value×Value) [0,4,9,67] [4] ks.length (λk x=>qhe (Hu n).b (ks.drop k) x.1 x.2.1=some r) (λx=>[]) (λx=>[(0, .box b [.own 990 x.2.2.1, .v (.int .u64 x.1.fi.val), .v (.int .u64 x.1.la.val), .own 991 x.2.2.2, .v (.bool x.1.nul)]),(990, .row x.2.2.1 fw 1 (x.1.lvs.map enc)),(991, .row x.2.2.2 gm 1 (x.1.fol.map enc)),(9, .box b9 [.v (.int .u64 x.2.1.first.val), .v (.int .u64 x.2.1.last.val), .v (.bool x.2.1.nul)])]) (t,qAT,v,v') (by simpa using hF) ?_ ?_ (hh:=by simp[qAT])
  ·rintro k ⟨t,p,w,w'⟩ hk hx;obtain⟨y,hy⟩:=WC hk;obtain⟨_,hgy⟩:=qFG.1 hy;rw[xo hy,qhe]at hx;obtain⟨q,hq,hx⟩:=qFF.1 hx;simp[hk,hy,hgy,h1,hq,-fB',-eB'];refineλu u'=>⟨λhn=>⟨q.1,_,hx,u,u', .inl ⟨rfl,rfl,rfl,rfl,rfl⟩, .inl ⟨rfl,rfl⟩, .inl ⟨rfl,rfl⟩, .inl ⟨rfl,rfl,by simp[hn]⟩⟩,λhn=>⟨q.1,_,hx,u,u', .inl ⟨rfl,rfl,rfl,rfl,rfl⟩, .inl ⟨rfl,rfl⟩, .inl ⟨rfl,rfl⟩, .inl ⟨rfl,rfl,by simp[hn]⟩⟩⟩
  ·rintro⟨t,p,w,w'⟩ hx;rw[qGw,qhe]at hx;obtain rfl:=qFT hx;simp[-fB',-eB'];exact AJ w w' t p rfl rfl rfl rfl ⟨rfl,rfl⟩
 rename_i e3;simp[db,cX,Ay,rT,rU,vO,h2,e1,e2,e3,hF,-fB',-eB'];intro b1 w w';exact AJ w w' r.1 r.2 rfl rfl rfl rfl rfl
def AE{t:Tbk}(h:VD t≠false):t.lvs.length<=1000/\t.fol.length<=1000:=by
 cases hb:VD t with
 |true=>exact of_decide_eq_true hb
 |false=>exact absurd hb h
set_option maxHeartbeats 1000000 in
theorem qa9(n:Nat)(h1:S dy=OA n)(h2:S fm=qbN n)(h3:S dZ=Ns):LA di df S (a2 Rx Int) (enc (X:=Prt)) (Hu (n+1)).o:=by
 rintro b v v' t ⟨y,m⟩ r hF;replace hF:qrp (Hu n).b (Hu n).o t ⟨y,m⟩=some r:=hF;unfold qrp at hF;simp only at hF;split at hF
 ·cases hF
 rename_i hok;have hok1:=AE λh=>hok (.inr (.inr h))
 have hm0:0<=m:=by have:¬m< 0:=λh=>hok (.inl h);omega
 have hm1:m<=100:=by have:¬100<m:=λh=>hok (.inr (.inl h));omega
 obtain⟨hlv,hfo⟩:=hok1;have hlv':(t.lvs.length:Int)<=9223372036854775807:=by omega
 split at hF
 ·rename_i e;subst e;obtain rfl:=qFT hF;simp[di,df,Ay,rT,rU,vO,-fB',-eB'];intro b1;exact AJ v v' t GZ rfl rfl rfl rfl ⟨rfl,rfl⟩
 rename_i e0;obtain⟨q,hq,hF⟩:=qFF.1 hF;split at hF
 ·cases hF
 rename_i hok2;have hok3:=AE hok2;obtain⟨hlq,hfq⟩:=hok3;have hlq':(q.1.lvs.length:Int)<=9223372036854775807:=by omega
 split at hF
 ·rename_i e;obtain rfl:=qFT hF;have e':(q.1.lvs.length:Int)=t.lvs.length:=by omega
  simp[di,df,Ay,rT,rU,vO,h1,hq,e0,hlv',hlq',e,e',-fB',-eB'];intro b1 w w';exact AJ w w' q.1 GZ rfl rfl rfl rfl ⟨rfl,rfl⟩
 rename_i e;obtain⟨c,hc,hF⟩:=qFF.1 hF;obtain⟨l,hl,hF⟩:=qFR.1 hF;subst hF;have e':¬(q.1.lvs.length:Int)=t.lvs.length:=by omega
 have hin:InR .i64 (m -1):=by simp only[InR];omega
 simp[di,df,Ay,rT,rU,vO,h1,h2,h3,hq,hc,hl,e0,hlv',hlq',e,e',hin,-fB',-eB'];exactλb1 w w'=>AJ w w' l.1 _ rfl rfl rfl rfl ⟨rfl,rfl⟩
def qpz(b:Tbk->Rx->Option (Tbk×Prt))(o:Tbk->Rx×Int->Option (Tbk×Prt))(y:Rx)(mn mx:Int)(q:Tbk×Prt×Bool):Option (Tbk×Prt):=
 if q.2.2=true then some (q.1,GZ)else
  if mx< 0/\mn=0 then(b q.1 y).bind λr=>(Je r.1 (r.2.last,r.2.first)).map λl=>(l.1, { r.2 with nul:=true })else
  if mn<mx then(o q.1 (y,mx -mn)).bind λr=>CH r.1 (q.2.1,r.2)else some (q.1,q.2.1)
set_option maxHeartbeats 2000000 in
theorem qhp(n:Nat)(h1:S dy=OA n)(h2:S fm=qbN n)(h3:S dZ=Ns)(h4:S ir=UV):LA jA jh S (a1 Rx) (enc (X:=Prt)) (Hu (n+1)).r:=by
 rintro b v v' t ⟨op,mn,mx,rs,ks⟩ r hF;replace hF:qi1 (Hu n).b (Hu n).o t ⟨op,mn,mx,rs,ks⟩=some r:=hF;unfold qi1 at hF;simp only at hF;split at hF
 ·cases hF
 rename_i y ks';split at hF
 ·cases hF
 rename_i hrng;obtain⟨q,hq,hF⟩:=qFF.1 hF;have hF:qpz (Hu n).b (Hu n).o y mn mx q=some r:=hF;have hm:mn=(mn.toNat:Int):=by omega
 generalize mn.toNat=m at hm hq;subst hm;have hm':(m:Int)<=9223372036854775807:=by omega
 have hpos:(0:Int)<((y::ks').length:Int):=by simp
 simp[jA,jh,Ay,rT,rU,vO,hm',-fB',-eB'];intro b4 b5;refine ah (X:=Tbk×Prt×Value×Value) [0,3,4,5] [4] m (λk x=>(quw (Hu n).b y mx (m -k) x.1 x.2.1).bind (qpz (Hu n).b (Hu n).o y m mx)=some r) (λx=>[]) (λx=>[(0, .box b [.own 990 x.2.2.1, .v (.int .u64 x.1.fi.val), .v (.int .u64 x.1.la.val), .own 991 x.2.2.2, .v (.bool x.1.nul)]),(990, .row x.2.2.1 fw 1 (x.1.lvs.map enc)),(991, .row x.2.2.2 gm 1 (x.1.fol.map enc)),(5, .box b5 [.v (.int .u64 x.2.1.first.val), .v (.int .u64 x.2.1.last.val), .v (.bool x.2.1.nul)])]) (t,GZ,v,v') (by simp[hq,hF]) ?_ ?_ (hh:=by simp[GZ])
 ·rintro k ⟨t,p,w,w'⟩ hk hx;rw[show m -k=(m - (k+1)) +1 by omega,quw]at hx;simp only at hx;split at hx
  ·cases hx
  rename_i hok;obtain⟨hlv,hfo⟩:=AE hok;have hlv':(t.lvs.length:Int)<=9223372036854775807:=by omega
  cases hb:(Hu n).b t y with
  |none=>rw[hb]at hx;cases hx
  |some c=>
  rw[hb,qF1]at hx;split at hx
  ·cases hx
  rename_i hok2;obtain⟨hlq,hfq⟩:=AE hok2;have hlq':(c.1.lvs.length:Int)<=9223372036854775807:=by omega
  split at hx
  ·rename_i e;have e':(c.1.lvs.length:Int)=t.lvs.length:=by omega
   simp[hk,h1,hb,hlv',hlq',e,e',-fB',-eB'];have hx:some (c.1,GZ)=some r:=hx;obtain rfl:=qFT hx;exactλu u'=>AJ u u' c.1 GZ rfl rfl rfl rfl rfl
  rename_i e;have e':¬(c.1.lvs.length:Int)=t.lvs.length:=by omega
  have hin:InR .i64 ((m:Int) -1):=by simp only[InR];omega
  by_cases hmx:mx< 0
  ·by_cases hkm:m - (k+1)=0
   ·rw[if_pos ⟨hmx,hkm⟩]at hx;have hkm':(k:Int)=m -1:=by omega
    cases hl:Je c.1 (c.2.last,c.2.first)with
    |none=>rw[hl]at hx;cases hx
    |some l=>
    rw[hl,qF1]at hx;cases hc:CH l.1 (p,c.2)with
    |none=>rw[hc]at hx;cases hx
    |some d=>
    rw[hc,qF1]at hx;simp[hk,h1,h3,h4,hb,hl,hc,hlv',hlq',e,e',hin,hmx,hkm',-fB',-eB'];exactλu u'=>⟨d.1,d.2,hx,u,u', .inl ⟨rfl,rfl,rfl,rfl,rfl⟩, .inl ⟨rfl,rfl⟩, .inl ⟨rfl,rfl⟩, .inl ⟨rfl,rfl,rfl⟩⟩
   ·rw[if_neg (λh=>hkm h.2)]at hx;have hkm':¬(k:Int)=m -1:=by omega
    rw[qF1]at hx;cases hc:CH c.1 (p,c.2)with
    |none=>rw[hc]at hx;cases hx
    |some d=>
    rw[hc,qF1]at hx;simp[hk,h1,h3,h4,hb,hc,hlv',hlq',e,e',hin,hmx,hkm',-fB',-eB'];exactλu u'=>⟨d.1,d.2,hx,u,u', .inl ⟨rfl,rfl,rfl,rfl,rfl⟩, .inl ⟨rfl,rfl⟩, .inl ⟨rfl,rfl⟩, .inl ⟨rfl,rfl,rfl⟩⟩
  ·rw[if_neg (λh=>hmx h.1)]at hx;rw[qF1]at hx;cases hc:CH c.1 (p,c.2)with
   |none=>rw[hc]at hx;cases hx
   |some d=>
   rw[hc,qF1]at hx;simp[hk,h1,h3,h4,hb,hc,hlv',hlq',e,e',hmx,-fB',-eB'];exactλu u'=>⟨d.1,d.2,hx,u,u', .inl ⟨rfl,rfl,rfl,rfl,rfl⟩, .inl ⟨rfl,rfl⟩, .inl ⟨rfl,rfl⟩, .inl ⟨rfl,rfl,rfl⟩⟩
 ·rintro⟨t,p,w,w'⟩ hx;simp only[qHy,quw,qF1]at hx;have hx:(if mx< 0/\(m:Int)=0 then((Hu n).b t y).bind λr=>(Je r.1 (r.2.last,r.2.first)).map λl=>(l.1, { r.2 with nul:=true })else
   if(m:Int)<mx then((Hu n).o t (y,mx -m)).bind λr=>CH r.1 (p,r.2)else some (t,p))=some r:=hx
  by_cases hA:mx< 0/\(m:Int)=0
  ·rw[if_pos hA]at hx;obtain⟨hmx,hm0⟩:=hA;obtain⟨c,hb,hx⟩:=qFF.1 hx;obtain⟨l,hl,rfl⟩:=qFR.1 hx;have hm0':m=0:=by omega
   subst hm0';simp[h1,h4,hb,hl,hmx,-fB',-eB'];exactλu u'=>AJ u u' l.1 _ rfl rfl rfl rfl ⟨rfl,rfl⟩
  ·rw[if_neg hA]at hx;by_cases hB:(m:Int)<mx
   ·rw[if_pos hB]at hx;obtain⟨c,hb,hx⟩:=qFF.1 hx;have n0:¬mx< 0:=by omega
    have hin:InR .i64 (mx -m):=by simp only[InR];omega
    simp[h2,h3,hb,hx,n0,hB,hin,-fB',-eB'];exactλu u'=>AJ u u' r.1 r.2 rfl rfl rfl rfl rfl
   ·rw[if_neg hB]at hx;obtain rfl:=qFT hx;by_cases hmx:mx< 0
    ·have hm0:¬(m:Int)=0:=λh=>hA ⟨hmx,h⟩
     have hm0':¬m=0:=by omega
     simp[hmx,hm0,hm0',hB,-fB',-eB'];exact AJ w w' t p rfl rfl rfl rfl ⟨rfl,rfl⟩
    ·simp[hmx,hB,-fB',-eB'];exact AJ w w' t p rfl rfl rfl rfl ⟨rfl,rfl⟩
end
section
open Cod (enc dec)
def qcB(t:Tbk):D:= .cptr [enc t.lvs,enc t.fi,enc t.la,enc t.fol,enc t.nul] 0
def qkL{t t':Tbk}(h:qcB t=qcB t'):t=t':=by
 obtain⟨a1,a2,a3,a4,a⟩:=t;obtain⟨b1,b2,b,c,d⟩:=t';unfold qcB at h;injection h with h1 h2;simp only[qGd]at h1;obtain⟨h1,h2,h3,h4,h5,_⟩:=h1;have h1:=aP h1;have h2:=aP h2;have h3:=aP h3;have h4:=aP h4;have h5:=aP h5;subst h1;subst h2;subst h3;subst h4;subst h5;rfl
open Classical in
noncomputable instance:Cod Tbk where
 wd:=1
 enc:=qcB
 dec d:=if h:∃t,d=qcB t then some h.choose else none
 kn _:=rfl
 wid _:=rfl
 dec_enc t:=by
  have h:∃t',qcB t=qcB t':=⟨t,rfl⟩
  rw[dif_pos h];exact congrArg some (qkL h.choose_spec).symm
 le d x h:=by
  split at h
  ·rename_i h';cases h;rw[h'.choose_spec.symm];exact .same _
  ·cases h
@[simp] theorem qyR(t:Tbk):enc t= .cptr [enc t.lvs,enc t.fi,enc t.la,enc t.fol,enc t.nul] 0:=i' rfl
@[simp] theorem qy1(l:List (List Rng))(f a:Int)(fo:List U64)(n:Bool):dec (X:=Tbk) (.cptr [.list 1 (l.map enc), .v (.int .u64 f), .v (.int .u64 a), .list 1 (fo.map enc), .v (.bool n)] 0)=some ⟨l,⟨f⟩,⟨a⟩,fo,n⟩:=Cod.dec_enc (X:=Tbk) ⟨l,⟨f⟩,⟨a⟩,fo,n⟩
variable {S S0:Nat->Spc}
def qpb(n:Nat)(x:Rx):Prop:=(qm9 n x).isSome=true
def qsI(n:Nat)(x:Rx)(t:Tbk):Prop:=qm9 n x=some t
noncomputable abbrev qpt(n:Nat):Spc:=aG (a1 Rx) (qpb n) (enc (X:=Tbk)) (qsI n)
theorem qAg(n:Nat)(h1:S dy=OA n):ak Cl Bk S (a1 Rx) (qpb n) (enc (X:=Tbk)) (qsI n):=by
 rintro x d;obtain⟨t,c⟩:=qGG.1 d;obtain⟨q,h,rfl⟩:=qFR.1 c;have a:(Hu n).b ⟨[],⟨0⟩,⟨0⟩, [],false⟩ x=some q:=h;simp[Cl,Bk,-fB',-eB'];refine gc (X:=Nat) [1] [] [] [] (λ_=>True) (λb=>[(3, .bptr 6 b 0)]) (λb=>[(6, .box b [.own 990 (.slice none 0 0), .v (.int .u64 0), .v (.int .u64 0), .own 991 (.slice none 0 0), .v (.bool false)]),(990, .row (.slice none 0 0) fw 1 []),(991, .row (.slice none 0 0) gm 1 [])]) [6,990,991] (λ_=>rfl) (by decide) ?_ ?_
 ·simp;refineλb=>⟨b, .same _, .inl ?_,by simp[isNilRow],by simp[isNilRow]⟩
  simp;exact⟨.nilown 990, .nilown 991⟩
 ·rintro b -;have j:(Res.row (.slice none 0 0) fw 1 []:Res)= .row (.slice none 0 0) fw 1 (([]:List (List Rng)).map enc):=rfl;have k:(Res.row (.slice none 0 0) gm 1 []:Res)= .row (.slice none 0 0) gm 1 (([]:List U64).map enc):=rfl;rw[j,k];simp[h1,a, -List.map_nil,-fB',-eB'];simp[a,-fB',-eB'];intro w w';refine gc (X:=Unit) [] [] [990,991] [] (λ_=>True) (λ_=>[(2, .bptr 6 b 0)]) (λ_=>[(6, .box b [enc q.1.lvs, .v (.int .u64 q.2.first.val), .v (.int .u64 q.2.last.val),enc q.1.fol, .v (.bool q.2.nul)])]) [6] (λ_=>rfl) (by decide) ?_ ?_
  ·simp;exact .inl ⟨fA (l:=q.1.lvs) fw rfl,fA (l:=q.1.fol) gm rfl⟩
  ·rintro - -;simp;refine aL ⟨q.1.lvs,q.2.first,q.2.last,q.1.fol,q.2.nul⟩ ?_ c;exact .box rfl
def qmg(x:Tbk×U64×Bool):Prop:=x.1.fol.length<=100000
def ql4(x:Tbk×U64×Bool)(y:U64):Prop:=y=D1 x.1 x.2.1 x.2.2
noncomputable abbrev qii:Spc:=aG (a3 Tbk U64 Bool) qmg (enc (X:=U64)) ql4
theorem qmY:ak gR gF S (a3 Tbk U64 Bool) qmg (enc (X:=U64)) ql4:=by
 rintro⟨⟨lv,fi,la,fo,d⟩,set,a⟩ hlen;have hlen:fo.length<=100000:=hlen;have hl:(fo.length:Int)<=9223372036854775807:=by omega
 cases a
 ·simp[gR,gF,hl,-fB',-eB'];refine ah (X:=U64) [1,18] [] fo.length (λk m=>qpG set k (fo.drop k) m=qpG set 0 fo ⟨0⟩) (λm=>[(7,enc m)]) (λx=>[]) ⟨0⟩ (by simp) ?_ ?_
  ·rintro k m hk hm;obtain⟨f,b⟩:∃f,fo[k]? =some f:=⟨_,qFH hk⟩
   obtain⟨_,c⟩:=qFG.1 b;rw[qjt b]at hm;simp[hk,b,c,-fB',-eB'];exact⟨λhb=>⟨qnC m f,by simpa [hb]using hm,rfl⟩,λhb=>⟨m,by simpa [hb]using hm,rfl⟩⟩
  ·rintro m hm;rw[qGw,qpG]at hm;subst hm;simp[-fB',-eB'];exact aL _ (.same _) rfl
 ·simp[gR,gF,hl,-fB',-eB'];exact aL _ (.same _) rfl
end
section
open Cod (enc dec)
def Wr(l:List Rng)(c:Int):Bool:=l.any λr=>decide (r.fr.val<=c) && decide (c<=r.to.val)
def qtj(next:U64)(c:I32):Nat->List (List Rng)->U64->U64
 | _, [],m=>m
 |i,l::ls,m=>qtj next c (i+1) ls (if qg5 next i && Wr l c.val then⟨quI .u64 m.val (Yi .u64 1 i)⟩else m)
def qm4(next:U64)(lvs:List (List Rng)):List I32->U64->U64
 | [],m=>m
 |v::vs,m=>qm4 next lvs vs (qtj next v 0 lvs m)
def quV(t:Tbk)(b:I32->List I32):List I32->U64->Bool->Bool
 | [],set,a=>(a && t.nul)||decide (qcQ .u64 set.val t.la.val≠0)
 |c::l,set,a=>if(qm4 (D1 t set a) t.lvs (b c) ⟨0⟩).val=0 then false else quV t b l (qm4 (D1 t set a) t.lvs (b c) ⟨0⟩) false
def low(c:Int):Int:=if 65<=c/\c<=90 then c+32 else c
def PX(c:I32):List I32:=([⟨low c.val⟩,⟨low c.val -32⟩,⟨low c.val -80⟩]:List I32).filter λv=>decide (0<=v.val/\low v.val=low c.val)
def qbh(f:Bool)(c:I32):List I32:=if f=true then PX c else[c]
def qoP(l:List UInt8):List I32:=l.map λc=>⟨(c.toNat:Int)⟩
def G1(x:Rx)(s:B)(f:Bool):Option Bool:=if Ga 50 x=true/\Cq s=true/\s.size<=1000 then(qm9 50 x).bind λt=>if VD t=true then some (quV t (qbh f) (qoP s.data.toList) ⟨0⟩ true)else none else none
open Go.Proofs
def xu:CC:=gq Tryz.f256 [3] {} _
def wq:List aj:=[.tmp 6]
def O9:FO tH [3] xu wq 88:=fo
def xx:CC:=gq Tryz.f194 [2] {} _
def wt:List aj:=[.tmp 4]
def Pb:FO zt [2] xx wt 8:=fo
def sY:CC:=gq Tryz.f258 [] {} _
def sf:List aj:=[.tmp 2]
def Kw:FO dS [] sY sf 5:=fo
def oV:CC:=gq Tryz.f193 [2] {} _
def oh:List aj:=[.tmp 4]
def Gu:FO qM [2] oV oh 8:=fo
def ri:CC:=gq Tryz.f257 [] {} _
def pT:List aj:=[.tmp 2]
def IB:FO dv [] ri pT 43:=fo
variable {S S0:Nat->Spc}
def aMt:dP (Rx×B×Bool):=⟨λds=>match ds with
 | [a,b, .clo f []]=>if f=dS then(dec a).bind λx=>(dec b).map λs=>(x,s,false)else if f=dv then(dec a).bind λx=>(dec b).map λs=>(x,s,true)else none
 | _=>none,λx=>[enc x.1,enc x.2.1, .clo (if x.2.2=true then dv else dS) []],λds x h=>by
 split at h
 ·rename_i a b f;split at h
  ·rename_i e;simp only[qFF,qFR]at h;obtain⟨x,c,s,hs,rfl⟩:=h;subst e;exact .cons (Cod.le _ _ c) (.cons (Cod.le _ _ hs) (.cons (.same _) .nil))
  ·split at h
   ·rename_i e;simp only[qFF,qFR]at h;obtain⟨x,c,s,hs,rfl⟩:=h;subst e;exact .cons (Cod.le _ _ c) (.cons (Cod.le _ _ hs) (.cons (.same _) .nil))
   ·cases h
 ·cases h⟩
@[simp] theorem qwh(x:Rx)(s:B)(f:Bool):aMt.view (x,s,f)=[enc x,enc s, .clo (if f=true then dv else dS) []]:=i' rfl
@[simp] theorem qwj(a b:D):aMt.dec [a,b, .clo dS []]=(dec a).bind λx=>(dec b).map λs=>(x,s,false):=i' rfl
@[simp] theorem qwi(a b:D):aMt.dec [a,b, .clo dv []]=(dec a).bind λx=>(dec b).map λs=>(x,s,true):=i' rfl
abbrev qfL:Spc:=aG (a1 Rx) (λx=>Ga 50 x=true) (enc (X:=Int)) λx y=>y=0
abbrev qim:Spc:=aG (a2 (List Rng) I32) (λ_=>True) (enc (X:=Bool)) λx y=>y=Wr x.1 x.2.val
abbrev s_cpVal:Spc:=aG (a1 B) (λs=>Cq s=true/\s.size<=1000) (enc (X:=Bool)) λ_ y=>y=true
abbrev qpx:Spc:=aG (a1 I32) (λc=>0<=c.val/\c.val< 128) (enc (X:=List I32)) λc y=>y=qbh false c
abbrev qps:Spc:=aG (a1 I32) (λc=>0<=c.val/\c.val< 128) (enc (X:=List I32)) λc y=>y=qbh true c
def qpa(x:Rx×B×Bool):Prop:=∃y,G1 x.1 x.2.1 x.2.2=some y
def qsG(x:Rx×B×Bool)(y:Bool):Prop:=G1 x.1 x.2.1 x.2.2=some y
abbrev qin:Spc:=aG aMt qpa (enc (X:=Bool)) qsG
def TM{s:B}(h:Cq s=true){p:Nat}(hp:p<s.size):∃c:UInt8,s.data.toList[p]? =some c/\c.toNat< 128/\Utf8.decode s p=(c.toNat,1):=by
 have hl:p<s.data.toList.length:=by rw[qGr];exact hp
 refine⟨s.data.toList[p],qFH hl,?_,?_⟩
 ·have:=qFN.1 h _ (qG6 hl);simpa using this
 ·have h1:(s[p]'hp).toNat< 128:=by
   have:=qFN.1 h _ (qG6 hl);have h2:s.data[p].toNat< 128:=by simpa using this
   exact h2
  have:=Go.decode_ascii s p hp h1;rw[this];have:s[p]=s.data.toList[p]:=by
   rw[Array.getElem_toList];rfl
  rw[this]
set_option maxHeartbeats 2000000 in
theorem Q0(h1:S mB=qfL)(h2:S rf=s_cpVal)(h3:S En=qpt 50)(h4:S nj=qii)(h5:S sL=qim)(h6:S dS=qpx)(h7:S dv=qps):
 ak xu wq S aMt qpa (enc (X:=Bool)) qsG:=by
 rintro⟨x,s,f⟩ ⟨y,hy⟩;have hy0:G1 x s f=some y:=hy;unfold G1 at hy0;split at hy0
 rotate_left
 ·cases hy0
 rename_i hc;obtain⟨hv,ha,hsz⟩:=hc;obtain⟨t,ht,hy1⟩:=qFF.1 hy0;split at hy1
 rotate_left
 ·cases hy1
 rename_i hok;have hres:quV t (qbh f) (qoP s.data.toList) ⟨0⟩ true=y:=qFT hy1;obtain⟨hlv,hfo⟩:=AE (t:=t) (by rw[hok];simp);have hOf:qsI 50 x t:=ht;have hPOf:qpb 50 x:=by unfold qpb;rw[ht];rfl
 simp[xu,wq,h1,h2,h3,hv,ha,hsz,hPOf,-fB',-eB'];intro t' ht' b;obtain rfl:t=t':=by
  have h:qm9 50 x=some t':=ht';rw[ht]at h;exact qFT h
 refine au (X:=U64×Bool×Nat) [2,7,28] [] (λz=>quV t (qbh f) (qoP (s.data.toList.drop z.2.2)) z.1 z.2.1=y/\z.2.2<=s.size) (λz=>[(8,enc z.1),(9,enc z.2.1)]) (λz=>[(28, .iter b s z.2.2)]) (λz=>s.size -z.2.2) (⟨0⟩,true,0) ⟨by simpa using hres,qF3 _⟩ ?_;rintro⟨set,beg,pos⟩ ⟨hm,hp⟩;simp only at hm hp;by_cases hlt:pos<s.size
 ·obtain⟨c,hc,hc128,hdec⟩:=TM ha hlt;rw[xo hc]at hm;have hm:(if(qm4 (D1 t set beg) t.lvs (qbh f ⟨(c.toNat:Int)⟩) ⟨0⟩).val=0 then false else quV t (qbh f) (qoP (s.data.toList.drop (pos+1))) (qm4 (D1 t set beg) t.lvs (qbh f ⟨(c.toNat:Int)⟩) ⟨0⟩) false)=y:=hm;have hN:qmg (t,set,beg):=by show t.fol.length<=100000;omega
  have hq:ql4 (t,set,beg) (D1 t set beg):=rfl;have c0:(0:Int)<=(c.toNat:Int):=by omega
  have c1:(c.toNat:Int)< 128:=by omega
  have hvl:((qbh f ⟨(c.toNat:Int)⟩).length:Int)<=9223372036854775807:=by
   have:(qbh f ⟨(c.toNat:Int)⟩).length<=3:=by
    unfold qbh;split
    ·unfold PX;exact qGl (List.length_filter_le _ _) (by simp)
    ·simp
   omega
  have h8:S (if f=true then dv else dS)=aG (a1 I32) (λc=>0<=c.val/\c.val< 128) (enc (X:=List I32)) λc y=>y=qbh f c:=by
   cases f
   ·exact h6
   ·exact h7
  simp[hlt,hdec,h4,hN,h8,c0,c1,hvl,-fB',-eB'];intro nx hnx;obtain rfl:nx=D1 t set beg:=hnx;generalize D1 t set beg=nx at hm;generalize qbh f ⟨(c.toNat:Int)⟩=vs at hm hvl;refine ah (X:=U64) [2,7,9,12,28,38] [28] vs.length (λk m=>qm4 nx t.lvs (vs.drop k) m=qm4 nx t.lvs vs ⟨0⟩) (λm=>[(8,enc m)]) (λ_=>[]) ⟨0⟩ (by simp) ?_ ?_
  ·rintro k m hk hm2;obtain⟨v,hvk⟩:=WC hk;obtain⟨_,hgv⟩:=qFG.1 hvk;rw[xo hvk,qm4]at hm2;have hlv':(t.lvs.length:Int)<=9223372036854775807:=by omega
   simp[hk,hvk,hgv,hlv',-fB',-eB'];refine ah (X:=U64) [2,7,9,12,14,28,38,39,40,47] [28] t.lvs.length (λk m'=>qtj nx v k (t.lvs.drop k) m'=qtj nx v 0 t.lvs m) (λm=>[(8,enc m)]) (λ_=>[]) m (by simp) ?_ ?_
   ·rintro j m' hj hm3;obtain⟨lf,hlf⟩:=WC hj;obtain⟨_,hgl⟩:=qFG.1 hlf;rw[xo hlf,qtj]at hm3;simp[hj,hlf,hgl,h5,-fB',-eB'];refine⟨λhb=>⟨λhc=>⟨_,by rw[if_pos (by simp[hb,hc])]at hm3;exact hm3,rfl⟩,λhc=>⟨m',by rw[if_neg (by simp[hc])]at hm3;exact hm3,rfl⟩⟩,λhb=>⟨m',by rw[if_neg (by simp[hb])]at hm3;exact hm3,rfl⟩⟩
   ·rintro m' hm3;rw[qGw,qtj]at hm3;subst hm3;simp[-fB',-eB'];exact⟨_,hm2,rfl⟩
  ·rintro m hm2;rw[qGw,qm4]at hm2;subst hm2;simp[-fB',-eB'];refine⟨λh0=>?_,λh0=>?_⟩
   ·rw[if_pos h0]at hm;subst hm;exact hy
   ·rw[if_neg h0]at hm;exact⟨_,false,pos+1,⟨hm,by omega⟩,⟨⟨rfl,rfl⟩, .inl rfl⟩,by omega⟩
 ·have hpe:pos=s.size:=by omega
  subst hpe;rw[qGX (by rw[qGr];exact qFM _)]at hm;have hm:((beg && t.nul)||decide (qcQ .u64 set.val t.la.val≠0))=y:=hm;simp[-fB',-eB'];have hQ:∀w,w=y->qsG (x,s,f) w:=λw e=>by subst e;exact hy
  refine⟨λhb=>⟨λhn=>hQ _ ?_,λhn=>hQ _ ?_⟩,λhb=>hQ _ ?_⟩
  all_goals
   subst hb
   first|subst hn|skip
   rw[<-hm];simp[*]
def Mk:ak sY sf S (a1 I32) (λc=>0<=c.val/\c.val< 128) (enc (X:=List I32)) λc y=>y=qbh false c:=by
 rintro⟨c⟩ ⟨a,c1⟩;simp[sY,sf,-fB',-eB'];exact aL [⟨c⟩] (by simp) rfl
def qaR(f:Bool)(x:Rx×B):Prop:=∃y,G1 x.1 x.2 f=some y
def ql5(f:Bool)(x:Rx×B)(y:Bool):Prop:=G1 x.1 x.2 f=some y
abbrev qdN(f:Bool):Spc:=aG (a2 Rx B) (qaR f) (enc (X:=Bool)) (ql5 f)
def Q3(h1:S tH=qin):ak xx wt S (a2 Rx B) (qaR false) (enc (X:=Bool)) (ql5 false):=by
 rintro⟨x,s⟩ hp;have a:qpa (x,s,false):=hp;simp[xx,wt,h1,a,-fB',-eB'];exactλy b=>b
def HA(h1:S tH=qin):ak oV oh S (a2 Rx B) (qaR true) (enc (X:=Bool)) (ql5 true):=by
 rintro⟨x,s⟩ hp;have a:qpa (x,s,true):=hp;simp[oV,oh,h1,a,-fB',-eB'];exactλy b=>b
def mz(c:Int):B:=⟨#[c.toNat.toUInt8]⟩
abbrev s_cpFold1:Spc:=aG (a1 B) (λs=>∃c:Int,0<=c/\c< 128/\s=mz c) (enc (X:=B)) λs y=>∀c:Int,0<=c->c< 128->s=mz c->y=mz (low c)
def Wl{c:Int}(h0:0<=c)(h1:c< 128):Utf8.encode c=mz c:=by
 unfold Utf8.encode mz;have e:c.toNat< 128:=by omega
 have h:Utf8.valid c=true:=by
  unfold Utf8.valid;have:c< 55296:=by omega
  simp[h0,this]
 simp[e,h]
def VJ{c:Int}(h0:0<=c)(h1:c< 128):0<=low c/\low c< 128:=by unfold low;split<;>omega
theorem qdU{c d:Int}(hc:0<=c)(a:c< 128)(k:0<=d)(j:d< 128)(h:mz c=mz d):c=d:=by
 have:c.toNat.toUInt8=d.toNat.toUInt8:=by
  have:=congrArg (λb:B=>b.data.toList.head?) h;simpa [mz]using this
 have:=congrArg UInt8.toNat this;have l:c.toNat.toUInt8.toNat=c.toNat % 256:=qHm ..;have p:d.toNat.toUInt8.toNat=d.toNat % 256:=qHm ..;omega
def qrq{c d:Int}(hc:0<=c)(a:c< 128)(j:0<=d)(b:d< 128):(mz c=mz d)=(c=d):=propext ⟨qdU hc a j b,λh=>by rw[h]⟩
theorem qaZ(h1:S sW=s_cpFold1):ak ri pT S (a1 I32) (λc=>0<=c.val/\c.val< 128) (enc (X:=List I32)) λc y=>y=qbh true c:=by
 rintro⟨c⟩ ⟨q,c1⟩;have q:0<=c:=q;have c1:c< 128:=c1;obtain⟨I,J⟩:=VJ q c1;have L:∃d:Int,0<=d/\d< 128/\mz c=mz d:=⟨c,q,c1,rfl⟩
 simp[ri,pT,h1,Wl q c1,L,-fB',-eB'];intro y w b;obtain rfl:=w c q c1 rfl;clear w;obtain⟨r,K⟩:∃r,r=low c:=⟨_,rfl⟩
 rw[<-K]at I J ⊢;have j:(mz r).size=1:=rfl;have s:Utf8.decode (mz r) 0=(r.toNat,1):=by
  have h0:0<(mz r).size:=by rw[j];omega
  have W:((mz r)[0]'h0).toNat=r.toNat % 256:=qHm ..;have M:((mz r)[0]'h0).toNat=r.toNat:=by omega
  rw[Go.decode_ascii (mz r) 0 h0 (by omega),M]
 refine au (X:=Nat×Value×List I32) [4,13] [] (λz=>z.1=0/\z.2.1= .slice none 0 0/\z.2.2=[]\/z.1=1/\z.2.2=PX ⟨c⟩) (λz=>[(3, .own 40 z.2.1)]) (λz=>[(13, .iter b (mz r) z.1),(40, .row z.2.1 Oa 1 (z.2.2.map enc))]) (λz=>1 -z.1) (0, .slice none 0 0, []) (.inl ⟨rfl,rfl,rfl⟩) ?_ (hh:=by simp[isNilRow]);rintro⟨pos,v,l⟩ hz;simp only at hz;rcases hz with⟨rfl,rfl,rfl⟩|⟨rfl,rfl⟩
 ·have x:((r.toNat:Nat):Int)=r:=by omega
  have N:InR .i32 (r -32):=by simp only[InR];omega
  have O:InR .i32 (r -80):=by simp only[InR];omega
  simp[j,s,x,N,O,-fB',-eB'];have A:∀l:List I32,l=([⟨r⟩,⟨r -32⟩,⟨r -80⟩]:List I32).filter (λv=>decide (0<=v.val/\low v.val=r))->l=PX ⟨c⟩:=λl hl=>by
   rw[hl,PX];simp only[<-K]
  refine ah (X:=Value×List I32) [4,13,22] [13] 3 (λk z=>z.2=(([⟨r⟩,⟨r -32⟩,⟨r -80⟩]:List I32).take k).filter (λv=>decide (0<=v.val/\low v.val=r))/\z.2.length<=k) (λz=>[(3, .own 40 z.1)]) (λz=>[(40, .row z.1 Oa 1 (z.2.map enc))]) (.slice none 0 0, []) ⟨rfl,by simp⟩ ?_ ?_ (hh:=by simp[isNilRow])
  ·rintro k ⟨v,l⟩ hk ⟨hl,hlen⟩;simp only at hl hlen;obtain⟨e,he,C⟩:∃e:Int,e< 128/\([⟨r⟩,⟨r -32⟩,⟨r -80⟩]:List I32)[k]? =some ⟨e⟩/\([.v (.int .i32 r), .v (.int .i32 (r -32)), .v (.int .i32 (r -80))]:List D)[k]? =some (.v (.int .i32 e)):=by
    rcases(by omega:k=0\/k=1\/k=2)with rfl|rfl|rfl
    ·exact⟨r,by omega,rfl,rfl⟩
    ·exact⟨r -32,by omega,rfl,rfl⟩
    ·exact⟨r -80,by omega,rfl,rfl⟩
   obtain⟨E,p⟩:=C;have t:∀h,([.v (.int .i32 r), .v (.int .i32 (r -32)), .v (.int .i32 (r -80))]:List D)[k]'h= .v (.int .i32 e):=λh=>by
    obtain⟨_,h2⟩:=qFG.1 p;exact h2
   have u:(k:Int)< 3:=by omega
   have a:(([⟨r⟩,⟨r -32⟩,⟨r -80⟩]:List I32).take (k+1)).filter (λv=>decide (0<=v.val/\low v.val=r))=l++ ([⟨e⟩]:List I32).filter (λv=>decide (0<=v.val/\low v.val=r)):=by
    rw[qGP,E,qHz,<-hl];rfl
   by_cases h0:0<=e
   ·obtain⟨Q,U⟩:=VJ h0 he;have F:∃d:Int,0<=d/\d< 128/\mz e=mz d:=⟨e,h0,he,rfl⟩
    simp[hk,u,p,t,h0,h1,Wl h0 he,F,-fB',-eB'];intro y w;obtain rfl:=w e h0 he rfl;rw[qrq Q U I J];refine⟨λhh=>⟨by omega,by omega,λv=>⟨v,l++ [⟨e⟩],⟨?_,by simp;omega⟩,rfl, .inl ⟨rfl,by simp⟩⟩⟩,λhh=>⟨v,l,⟨?_,by omega⟩,rfl, .inl ⟨rfl,rfl⟩⟩⟩
    ·simpa [h0,hh]using a.symm
    ·simpa [h0,hh]using a.symm
   ·simp[hk,u,p,t,h0,-fB',-eB'];refine⟨v,l,⟨?_,by omega⟩,rfl, .inl ⟨rfl,rfl⟩⟩;simpa [h0]using a.symm
  ·rintro⟨v,l⟩ ⟨hl,hlen⟩;simp only at hl hlen;have hl:=A l hl;simp[-fB',-eB'];exact⟨1,v,l, .inr ⟨rfl,hl⟩,⟨rfl, .inl rfl, .inl ⟨rfl,rfl⟩⟩,rfl⟩
 ·simp[j,-fB',-eB'];exact aL (PX ⟨c⟩) (fA (l:=PX ⟨c⟩) Oa rfl) rfl
end
section
open Go.Proofs
def eY:CC:=gq Tryz.f197 [] {} _
def eQ:List aj:=[.tmp 4]
def tV:FO fB [] eY eQ 19:=fo
def fL:CC:=gq Tryz.f142 [] {} _
def fJ:List aj:=[.tmp 4]
def kP:FO bI [] fL fJ 9:=fo
def ib:CC:=gq Tryz.f202 [] {} _
def gU:List aj:=[.tmp 4]
def nH:FO fj [] ib gU 19:=fo
def fa:CC:=gq Tryz.f199 [] {} _
def eS:List aj:=[.tmp 4]
def iR:FO bQ [] fa eS 9:=fo
def fX:CC:=gq Tryz.f259 [] {} _
def fQ:List aj:=[.tmp 4]
def lD:FO dU [] fX fQ 19:=fo
def iJ:CC:=gq Tryz.f201 [3] {} _
def iw:List aj:=[.tmp 4]
def Az:FO jn [3] iJ iw 9:=fo
def lS:CC:=gq Tryz.f260 [3] {} _
def li:List aj:=[.tmp 4]
def DK:FO nf [3] lS li 19:=fo
def jt:CC:=gq Tryz.f140 [] {} _
def iY:List aj:=[.tmp 4]
def Bq:FO cY [] jt iY 19:=fo
def cO:CC:=gq Tryz.f113 [] {} _
def cL:List aj:=[.tmp 4]
def mL:FO bi [] cO cL 9:=fo
def mf:CC:=gq Tryz.f115 [3] {} _
def lw:List aj:=[.tmp 6, .tmp 7]
def DW:FO cR [3] mf lw 40:=fo
def pk:CC:=oX [oB 1 (.box ff true (oT 0)),oB 2 (.mv (.const ob))] [1] [] (oX [oD 6 7 1,oZ 7 cR [oT 6,oN 0,oN 1],oA 5 7,oB 8 (.ext (oT 5) 0),oB 9 (.ext (oT 5) 1),oA 3 8,oA 4 9] [3] [] (oX [oA 10 3,oB 11 (.cmp .gtr (oT 10) (oN 60)),oA 2 11] [2] [] (.ret)))
def oz:List aj:=[.tmp 2]
def rN:CC:=gq Tryz.f116 [2] {} _
def qt:List aj:=[.tmp 4]
def IY:FO iH [2] rN qt 29:=fo
def bE:CC:=gq Tryz.f179 [1,2034005,2033005,2043005,2042005,2041005,2052005,2051005,2050005] {} _
def bC:List aj:=[.tmp 2]
def GO:FO ra [1,2034005,2033005,2043005,2042005,2041005,2052005,2051005,2050005] bE bC 108:=fo
def jD:CC:=gq Tryz.f139 [3] {} _
def jk:List aj:=[.tmp 4]
def BA:FO bX [3] jD jk 8:=fo
def ig:CC:=gq Tryz.f198 [2] {} _
def gW:List aj:=[.tmp 3]
def zo:FO ci [2] ig gW 8:=fo
def jC:CC:=gq Tryz.f137 [] {} _
def jj:List aj:=[.tmp 4]
def GU:FO kU [] jC jj 14:=fo
def cz:CC:=gq Tryz.f180 [2] {} _
def cp:List aj:=[.tmp 4]
def GP:FO rb [2] cz cp 50:=fo
def dr:CC:=gq Tryz.f118 [3] {} _
def dn:List aj:=[.tmp 6]
def GV:FO rc [3] dr dn 59:=fo
def kL:CC:=gq Tryz.f64 [5,4,3] {} _
def kw:List aj:=[.tmp 6]
def C5:FO dz [5,4,3] kL kw 23:=fo
def iP:CC:=gq Tryz.f117 [3] {} _
def iC:List aj:=[.tmp 4]
def AD:FO cJ [3] iP iC 9:=fo
def kW:CC:=oX [oB 1 (.box ff true (oT 0)),oB 2 (.mv (.const ob))] [1] [] (oX [oE 3 0 1,oC 4 1 3,oB 5 (.eql false false [.int] (oT 4) (oN 4)),oA 6 5,oI 7 6 (.faddr 6 (oT 1)),oI 8 6 (.load false 1 (oT 7)),oI 9 6 (.call bI [oT 8,.func bJ]),oB 10 (.pick (oT 6) (.const (.bool true)) (oT 9)),oA 2 10] [2] [] (.ret))
def kO:List aj:=[.tmp 2]
def eJ:CC:=oX [oB 1 (.box ff true (oT 0)),oB 2 (.alloc ff [oi,oe,oe,oe,oe,ob,on])] [1,2] [2,33] (.seq (oX [oE 6 0 1,oC 7 1 6,oB 8 (.eql false false [.int] (oT 7) (oN 4)),oA 9 8,oI 10 9 (.faddr 0 (oT 1)),oI 11 9 (.load false 1 (oT 10)),oI 12 9 (.eql false false [.int] (oT 11) (oN 6)),oI 13 9 (.mv (oT 12)),oH 14 13 (.load true 7 (oT 1)),
 oH 15 13 (.call bJ [oT 14]),oI 16 9 (.pick (oT 13) (oT 15) (.const ob)),oB 17 (.pick (oT 9) (.const (.bool true)) (oT 16))] [1,2,17] [2,33] (.ite (oT 17) (oX [oB 18 (.build [oi,oe,oe,oe,oe,ob,on] [(0,1,oN 1)]),oF 7 2 18] [2] [2,33] (.ret)) (.skip))) (.keep [1,2] [2,33] (oX [oD 19 7 1,oB 3 (.alloc ff [oi,oe,oe,oe,oe,ob,on]),oF 7 3 19] [1,2,3] [2,3,33] (MJ 5 (.reg [
 oE 20 6 3,.op none none (.store none 1 (oT 20) (.const on))]) (.keep [1,2,3] [2,3,33] (.seq (oX [oE 21 6 1,oC 22 1 21,oB 23 (.len (oT 22)),oB 24 (.mv (oN 0))] [2,3,22,23,24] [2,3,33] (gd 0 24 23 25 1 (oX [oB 26 (.iaddr 7 (oT 22) (oT 24)),oD 27 7 26,oB 5 (.alloc ff [oi,oe,oe,oe,oe,ob,on]),oF 7 5 27] [2,3,5,22,23,24] [2,3,5,33] (.regd [oE 28 6 3,oC 29 1 28,oD 30 7 5,
 oZ 31 dO [oT 30],oB 32 (.bslice ff 7 [oT 31])] [oB 33 (.append (some 33) ff 7 104 (oT 29) (oT 32)),oE 34 6 3,.op none none (.store (some 3) 1 (oT 34) (oT 33))])) 35)) (.keep [2,3] [2,3,33] (oX [oD 36 7 3,oF 7 2 36] [2] [2,33] (.ret)))))))))
def ew:List aj:=[.cell 2 true 7]
def cA:CC:=gq Tryz.f136 [3] {} _
def cq:List aj:=[.tmp 6]
def GW:FO re [3] cA cq 38:=fo
def nz:CC:=gq Tryz.f141 [5,4,3] {} _
def mX:List aj:=[.tmp 6]
def Fz:FO oR [5,4,3] nz mX 11:=fo
def bZ:CC:=gq Tryz.f200 [3] {} _
def bW:List aj:=[.tmp 4]
def C1:FO cw [3] bZ bW 37:=fo
def GS:FO kT [1] pk oz 12:=fo
def IZ:FO bJ [1] kW kO 11:=fo
def GR:FO dO [1,2034003,1033033] eJ ew 37:=fo
open Cod (enc dec)
variable {S S0:Nat->Spc}
def FunOn{X Y:Type}[Cod X][Cod Y](S:Nat->Spc)(d:D)(l:List X)(p:X->Y):Prop:=
 ∃g caps a,d= .clo g caps/\S g= .pure a/\∀x∈l,a.pre (enc x::caps)/\∀r,a.post (enc x::caps) r->r=enc (p x)
def FunOn.useB{X:Type}[Cod X]{S:Nat->Spc}{d:D}{l:List X}{p:X->Bool}(h:FunOn S d l p){x:X}(a:x∈l){k:Nat}{H:ab}{K:D->ab->Prop}(hk:∀y:Bool,(∀q:X->Bool,FunOn S d l q->y=q x)->K (.v (.bool y)) H):EG S d k [enc x] H K:=by
 obtain⟨g,caps,A,rfl,h1,h2⟩:=h;simp only[EG,h1,Spc.pt];refine⟨(h2 x a).1,λr c=>?_⟩;have e:=(h2 x a).2 r c;rw[e];refine hk (p x) λq s=>?_
 obtain⟨C,b,t,u,j,w⟩:=s;cases u;rw[h1]at j;cases j;exact aP (e.symm.trans ((w x a).2 r c))
def wb{X Y Z:Type}[Cod X][Cod Y]{S:Nat->Spc}{g:Nat}{caps:List D}{A:dP Z}{pre:Z->Prop}{post:Z->Y->Prop}{l:List X}{p:X->Y}{f:X->Z}(h:S g=aG A pre enc post)(b:∀x∈l,A.dec (enc x::caps)=some (f x))(hp:∀x∈l,pre (f x))(c:∀x∈l,∀y,post (f x) y->y=p x):FunOn S (.clo g caps) l p:=by
 refine⟨g,caps,_,rfl,h,λx a=>⟨⟨f x,b x a,hp x a⟩,λr d=>?_⟩⟩;obtain⟨y,h1,h2⟩:=d (f x) (b x a) (hp x a);rw[h1,c x a y h2]
def qc1{X:Type}[Cod X](S0:Nat->Spc)(x:List X×D×Unit):Prop:=∃p:X->Bool,FunOn S0 x.2.1 x.1 p
def qo9{X:Type}[Cod X](S0:Nat->Spc)(x:List X×D×Unit)(y:Int):Prop:=∀p:X->Bool,FunOn S0 x.2.1 x.1 p->y=fe x.1 p
def qsJ{X:Type}[Cod X](S0:Nat->Spc)(x:List X×D×Unit)(y:Bool):Prop:=∀p:X->Bool,FunOn S0 x.2.1 x.1 p->y=x.1.any p
abbrev YO(X:Type)[Cod X](S0:Nat->Spc):Spc:=aG (aE (List X) (aD a0)) (qc1 S0) (enc (X:=Int)) (qo9 S0)
abbrev YP(X:Type)[Cod X](S0:Nat->Spc):Spc:=aG (aE (List X) (aD a0)) (qc1 S0) (enc (X:=Bool)) (qsJ S0)
theorem N0:ak eY eQ S (aE (List Attr) (aD a0)) (qc1 S) (enc (X:=Int)) (qo9 S):=by
 rintro⟨l,d,⟨⟩⟩ ⟨p,hp⟩;simp only at hp;simp[eY,eQ,-fB',-eB'];intro _;refine ah (X:=Unit) [0,1] [] l.length (λk _=>∀p:Attr->Bool,FunOn S d l p->∀x∈l.take k,p x=false) (λ_=>[]) (λ_=>[]) () (by simp) ?_ ?_
 ·intro k _ hk j;obtain⟨x,c⟩:∃x,l[k]? =some x:=⟨_,qFH hk⟩
  obtain⟨_,q⟩:=qFG.1 c;simp[hk,c,q,-fB',-eB'];refine hp.useB (x:=x) (qFK c) λy r=>?_
  simp[-fB',-eB'];refine⟨λh=>?_,λh b a=>?_⟩
  ·intro b a;exact(tE c (by rw[<-r b a,h]) (j b a)).symm
  ·rw[av c];intro z hz;rcases qFL.1 hz with hz|hz
   ·exact j b a z hz
   ·simp at hz;subst hz;rw[<-r b a,h]
 ·intro _ j;simp[-fB',-eB'];intro b a;exact(jZ (by simpa using j b a)).symm
theorem Sc:ak ib gU S (aE (List Cond) (aD a0)) (qc1 S) (enc (X:=Int)) (qo9 S):=by
 rintro⟨l,d,⟨⟩⟩ ⟨p,hp⟩;simp only at hp;simp[ib,gU,-fB',-eB'];intro _;refine ah (X:=Unit) [0,1] [] l.length (λk _=>∀p:Cond->Bool,FunOn S d l p->∀x∈l.take k,p x=false) (λ_=>[]) (λ_=>[]) () (by simp) ?_ ?_
 ·intro k _ hk j;obtain⟨x,c⟩:∃x,l[k]? =some x:=⟨_,qFH hk⟩
  obtain⟨_,q⟩:=qFG.1 c;simp[hk,c,q,-fB',-eB'];have e:D.agg [.v (.int .i64 x.op), .v (.string x.name), .v (.string x.arg), .v (.string x.val), .v (.string x.lab), .v (.bool x.fold), .list 7 (x.kids.map enc)]=enc x:=by simp
  rw[e];refine hp.useB (x:=x) (qFK c) λy r=>?_
  simp[-fB',-eB'];refine⟨λh=>?_,λh b a=>?_⟩
  ·intro b a;exact(tE c (by rw[<-r b a,h]) (j b a)).symm
  ·rw[av c];intro z hz;rcases qFL.1 hz with hz|hz
   ·exact j b a z hz
   ·simp at hz;subst hz;rw[<-r b a,h]
 ·intro _ j;simp[-fB',-eB'];intro b a;exact(jZ (by simpa using j b a)).symm
def Sd(h1:S fj=YO Cond S0):ak fL fJ S (aE (List Cond) (aD a0)) (qc1 S0) (enc (X:=Bool)) (qsJ S0):=by
 rintro⟨l,d,⟨⟩⟩ hp;simp[fL,fJ,h1,-fB',-eB'];refine⟨hp,λy c b a=>?_⟩;rw[c b a];exact vJ b l
theorem LC:ak fX fQ S (aE (List Region) (aD a0)) (qc1 S) (enc (X:=Int)) (qo9 S):=by
 rintro⟨l,d,⟨⟩⟩ ⟨p,hp⟩;simp only at hp;simp[fX,fQ,-fB',-eB'];intro _;refine ah (X:=Unit) [0,1] [] l.length (λk _=>∀p:Region->Bool,FunOn S d l p->∀x∈l.take k,p x=false) (λ_=>[]) (λ_=>[]) () (by simp) ?_ ?_
 ·intro k _ hk j;obtain⟨x,c⟩:∃x,l[k]? =some x:=⟨_,qFH hk⟩
  obtain⟨_,q⟩:=qFG.1 c;simp[hk,c,q,-fB',-eB'];refine hp.useB (x:=x) (qFK c) λy r=>?_
  simp[-fB',-eB'];refine⟨λh=>?_,λh b a=>?_⟩
  ·intro b a;exact(tE c (by rw[<-r b a,h]) (j b a)).symm
  ·rw[av c];intro z hz;rcases qFL.1 hz with hz|hz
   ·exact j b a z hz
   ·simp at hz;subst hz;rw[<-r b a,h]
 ·intro _ j;simp[-fB',-eB'];intro b a;exact(jZ (by simpa using j b a)).symm
def LD(h1:S dU=YO Region S0):ak fa eS S (aE (List Region) (aD a0)) (qc1 S0) (enc (X:=Bool)) (qsJ S0):=by
 rintro⟨l,d,⟨⟩⟩ hp;simp[fa,eS,h1,-fB',-eB'];refine⟨hp,λy c b a=>?_⟩;rw[c b a];exact vJ b l
end
end Go.Gv
