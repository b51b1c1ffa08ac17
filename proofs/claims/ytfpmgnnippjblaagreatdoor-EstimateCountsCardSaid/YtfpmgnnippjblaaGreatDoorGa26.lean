/- W235 -/
import Derived.ProofKit
import Derived.OpenShut
import Derived.ShutString
import Derived.ChangeOld
import Derived.Test.YtfpmgnnippjblaaGreatDoorGa25
set_option linter.all false
set_option maxRecDepth 100000
open Bool renaming forall_bool → fB', exists_bool → eB'
namespace Go.Gv
section
open Go.Proofs
open Cod (enc dec)
variable {S S0:Nat->Spc}
theorem V9{n:Nat}{c:Corpus}{q:Qry}(hc:qca c)(k:Yk c)(h:GQ n q)(hn:n<=5):RBegOk c q:=by
 have j:=(NU hc h hn).1;obtain⟨b,l⟩:=qbw h;refine⟨⟨j.v,λx a=>?_⟩,k.1,j.few,j.fx,λx a=>?_⟩
 all_goals
  have a:=h.cond x a;have p:=ZM a
 ·rw[b,hc.ok.1];exact⟨by show cM x.cond<=60;omega,by show bb x.cond<=20;omega,21,Zt a (by omega),by show att3.length<=1000;decide⟩
 ·have d:=qlJ a;have r:=SM x.cond;exact⟨hc.ok,by show cM x.cond<=60;omega,by show bb x.cond<=20;omega,by show cM (dh x.cond)<=60;omega,by show bb (dh x.cond)<=20;omega,by
   show qlz c.attrs [] 21 (dh x.cond);rw[show c.attrs=att3 from hc.ok.1];exact SH d (by omega),λi (hi:i<c.toks.length)=>WL ⟨hc.ok,by show(0:Int)<=(i:Int);omega,by show(i:Int)<c.toks.length;omega,rfl⟩ rfl d (by omega)⟩
def qf4{n:Nat}{q:Qry}(a:GQ n q)(hn:n<=5):eY q.pat<=64:=by
 obtain⟨lb,hl,b⟩:=a.lab;obtain⟨_,c,d⟩:=Q2 n q.pat b hn;have h2:2^ (n+1)<=64:=by
  rcases n with _|_|_|_|_|_|n
  all_goals first|decide|omega
 omega
theorem UQ(h1:S Tt=s_m_New)(h2:S rX=s_m_Corpus)(h3:S ua=Md)(h4:S oa=P2 Pw)(h5:S yK=FP)(h6:S Ew=qfg)(E:S nR=sM)(F:S kN=Me)(I:S wi=PZ):
 aq gQ gC S (a2 (List Int) (List Int)) (λ_=>True) (enc (X:=Bool)) λ_ y=>y=true:=by
 rintro⟨l,m⟩ -;simp[gQ,gC,h1,h2,h3,-fB',-eB'];refineλc A hk hl L q j b1 b2=>?_
 have hc:qca c:=⟨qm0 A hk,by omega⟩
 have r:=(NU hc j (by show 3<=5;decide)).1;have C:=V9 hc A j (by show 3<=5;decide);have s:=C.lv;have a:=r.pat;have J:(jA c q).length=(am q.pat).length:=by unfold jA;simp
 have b:(jA c q).length<=100000:=by have:=jP q.pat;have:=qf4 j (by show 3<=5;decide);omega
 clear h1 h2 h3 hk hl j;simp[h4,h5,h6,E,r,C,a,s,b,FM,-fB',-eB'];intro K;refine ah (X:=Unit) [5,7,44] [5] (am q.pat).length (λ_ _=>True) (λ_=>[]) (λ_=>[]) () trivial ?_ ?_
 ·rintro k -hk -;obtain⟨x,p⟩:=bD hk;obtain⟨_,t⟩:=qBc.1 p;have d:JZ (c,x.cond):=r.sel x (qBf p);have u:k<(jA c q).length:=by omega
  have h:(jA c q)[k]? =some (((FL c x.cond).length:Int)):=by unfold jA;rw[qBw,p];rfl
  obtain⟨_,w⟩:=qBc.1 h;simp[hk,p,t,F,d,u,h,w,-fB',-eB']
 ·rintro - -;simp[I,-fB',-eB']
end
section
open Go.Proofs Cod
variable {dq:Prop}
def qxq{p:Glob}(h:fl p<=0):False:=by rw[Cf]at h;omega
def Dd:∀n,TQ dq nS (qe3 n)
 | 0=>mK λx h=>qhC h
 |n+1=>aZ (ag (aa (Dd n) ae)) OY (λ_=>qBg rfl) (Rc n rfl)
def TJ:TQ dq nS qaM:=
 cK (λn=>Dd n) (dC (λx h=>h))
def Hd:∀n,TQ dq rh (Vw n)
 | 0=>mK λx h=>qhC h.1
 |n+1=>aZ (ag (aa TJ (aa (Hd n) ae))) Sn (λ_=>qBg rfl) (Us n rfl rfl)
def XR:TQ dq rh PV:=
 cK (λn=>Hd n) (dC (λx h=>h))
def XW:TQ dq Bl VC:=
 ac (ag (aa BO (aa XR ae))) Su (Uy rfl rfl)
def TK:TQ dq yM qe2:=
 ac (ag (aa BO (aa XW (aa BN (aa (He 21) ae))))) OZ (Rd rfl rfl rfl rfl)
def zL:∀n,TQ dq iJ (JH n)
 | 0=>mK λx h=>qxq h.1
 |n+1=>aZ (ag (aa (zL n) ae)) Ip (λ_=>qBg rfl) (J6 n rfl)
def Kp:TQ dq iJ FW:=
 cK (λn=>zL n) (dC (λx h=>h))
def zK:∀n,TQ dq iI (JG n)
 | 0=>mK λx h=>qxq h.1
 |n+1=>aZ (ag (aa (zK n) ae)) Io (λ_=>qBg rfl) (J5 n rfl)
def Ko:TQ dq iI FV:=
 cK (λn=>zK n) (dC (λx h=>h))
def OL:TQ dq wb P1:=
 ac (ag (aa Kp (aa Ko ae))) MD (Ou rfl rfl)
def qes:TQ dq Nn s_rIn:=
 ac (ag ae) qcW (qee)
def Mu:∀n,TQ dq tR (qaL n)
 | 0=>mK λx h=>qxq h.1
 |n+1=>aZ (ag (aa qes (aa sC (aa PK (aa rE (aa (Mu n) ae)))))) Wn (λ_=>qBg rfl) (Yz n rfl rfl rfl rfl rfl)
def YR:TQ dq tR Vx:=
 cK (λn=>Mu n) (dC (λx h=>⟨fl x.1,qBj _,h⟩))
def Rz:TQ dq yL qaN:=
 ac (ag (aa xU ae)) OX (Rb rfl)
def LJ:TQ dq tS VB:=
 ac (ag (aa Fw (aa Js (aa rE (aa CU (aa YQ (aa Rz (aa Fx (aa BN (aa OL (aa YR ae))))))))))) Kz (Lw rfl rfl rfl rfl rfl rfl rfl rfl rfl rfl)
def UX:TQ dq Bj JC:=
 ac (ag (aa TK ae)) Sk (Up rfl)
def Ry:TQ dq yK FP:=
 ac (ag (aa LJ (aa xU (aa UX ae)))) OU (Q7 rfl rfl rfl)
def F5:TQ dq oa (P2 Pw):=
 ac (ag (aa Zo (aa LM (aa wZ ae)))) D5 (Fe rfl rfl rfl)
def OO:TQ dq wi PZ:=
 ac (ag (aa (qeD qnj) (aa H6 (aa YP ae)))) MS (qcq rfl rfl rfl)
def Ve:TQ dq nZ qp0:=
 ac (ag (aa qi9 (aa Ku (aa LN (aa F5 (aa Ry (aa YT (aa xU (aa wZ (aa OO ae)))))))))) xu (UQ rfl rfl rfl rfl rfl rfl rfl rfl rfl)
end
section
open Go.ChangeShapes Go.WideShapes Go.ChangeAt Go.RowKit
section
variable {H:Type}{ec:TypeId×Value->H}{P:Program}{w:World}{base:Nat}{spare:Nat->Bool}{held:Bool}{tp I:Nat->Prop}
def OpR(tp I:Nat->Prop)(w:World)(cs:List Value)(d:D):Prop:=cs.length=d.cells.length/\∀(k:Nat) (y:Value) (c:D),cs[k]? =some y->d.cells[k]? =some c->y.oneCell'=true/\R tp I w y c
theorem OpR.one{y:Value}{d:D}(h:OpR tp I w [y] d)(a:d.cells=[d]):R tp I w y d:=(h.2 0 y d rfl (by rw[a];rfl)).2
def qfJ{t:TypeId}{fuel:Nat}{cs:List Value}{x:DataW H×List MemPlace}(a:P.underlying t=some (.int .i64))(h:DataW.trod ec P w base spare held fuel t cs=some x):∃n:Int,OpR tp I w cs (Cod.enc n):=by
 obtain⟨n,rfl,_,_⟩:=DataW.trod_int a h;refine⟨n,rfl,λk y c h1 h2=>?_⟩;cases k with
 |zero=>cases h1;cases h2;exact⟨rfl, .v _ rfl (λs h=>by cases h)⟩
 |succ k=>simp at h1
theorem Wh{Y:Type}[Cod Y]{t e:TypeId}(ht:P.underlying t=some (.slice e))(hc:P.cellsOf e=Cod.wd Y)(h0:0<Cod.wd Y)
 (O:∀(n:Nat) (cs:List Value) (x:DataW H×List MemPlace),DataW.trod ec P w base spare held n e cs=some x->∃y:Y,OpR tp I w cs (Cod.enc y)) (hI:∀b,b<w.heap.size->I b)
 {fuel:Nat} {cs:List Value} {x:DataW H×List MemPlace} (h:DataW.trod ec P w base spare held fuel t cs=some x) (Q:Cod.wd Y=1:=by rfl):∃l:List Y,OpR tp I w cs (Cod.enc l):=by
 have one:∀(v:Value) (l:List Y),v.oneCell'=true->R tp I w v (.list (Cod.wd Y) (l.map Cod.enc))->OpR tp I w [v] (Cod.enc l):=λv l h1 h2=>⟨rfl,λk y c e1 e2=>by
  cases k with
  |zero=>cases e1;cases e2;exact⟨h1,h2⟩
  |succ k=>simp at e1⟩
 rcases DataW.trod_slice ht h with⟨rfl,_⟩|⟨a,len,cap,S,rest,n,_,rfl,_,_,hl,hm,hlen,C,_⟩
 ·exact⟨[],one _ [] rfl (.nolist none 0 _)⟩
 ·by_cases hz:len=0
  ·subst hz;exact⟨[],one _ [] rfl (.nolist (some a) cap _)⟩
  ·have each:∀i:_root_.Fin len,∃p:List Value×Y,w.cells? base (a.add (i*P.cellsOf e)) (P.cellsOf e)=some p.1/\OpR tp I w p.1 (Cod.enc p.2):=λi=>by
    have h1:=C i i.2;rw[qBe (by omega)]at h1;obtain⟨cs',h2,h3⟩:=qBb.1 h1;obtain⟨y,hy⟩:=O n cs' _ h3;exact⟨(cs',y),h2,hy⟩
   obtain⟨g,hg⟩:=qCV each;obtain⟨b,off,spot⟩:=a;have cellAt:∀(i:_root_.Fin len) (j:Nat),j<Cod.wd Y->∃v,(g i).1[j]? =some v/\w.cell? ((Addr.add ⟨b,off,spot⟩ (i*Cod.wd Y)).add j)=some v:=λi j N=>by
    have h1:=World.cells?_some (hg i).1;have h2:=h1.2.2 j (by rw[hc];exact N);have h3:j<(g i).1.length:=by rw[h1.2.1,hc];exact N
    refine⟨(g i).1[j],qBe h3,?_⟩;rw[hc]at h2;rw[h2,qBe h3]
   have hs:spot=none:=by
    obtain⟨v,_,h2⟩:=cellAt ⟨0,by omega⟩ 0 h0;have:=World.cell?_spot h2;simpa [Addr.add]using this
   subst hs;have s:∀(o n:Nat),Addr.add ⟨b,o,none⟩ n=⟨b,o+n,none⟩:=λo n=>by
    unfold Addr.add;split
    ·rename_i e;subst e;rfl
    ·rfl
   have r:∀(i:_root_.Fin len) (j:Nat),j<Cod.wd Y->∃v,(g i).1[j]? =some v/\w.cell? ⟨b,off+ (i*Cod.wd Y+j),none⟩=some v:=λi j N=>by
    obtain⟨v,h1,h2⟩:=cellAt i j N;refine⟨v,h1,?_⟩;rw[s,s]at h2;rw[<-qDf];exact h2
   have hb:b<w.heap.size:=by
    obtain⟨v,_,h2⟩:=r ⟨0,by omega⟩ 0 h0;unfold World.cell? at h2;by_cases E:b<w.heap.size
    ·exact E
    ·simp only[qCX (Nat.le_of_not_lt E)]at h2;cases h2
   let es:List Y:=List.ofFn λi=>(g i).2
   have u:es.length=len:=by simp[es]
   have F:∀i:_root_.Fin len,(es.map Cod.enc)[(i:Nat)]? =some (Cod.enc (g i).2):=λi=>by
    rw[qBw];have:es[(i:Nat)]? =some (g i).2:=by simp[es]
    rw[this];rfl
   have U:∀d∈es.map Cod.enc,d.kn=true/\d.cells.length=Cod.wd Y:=λd J=>by
    obtain⟨y,_,rfl⟩:=qBr.1 J;exact⟨Cod.kn y,Cod.wid y⟩
   have q:∀(k:Nat) (c:D),(bk (es.map Cod.enc))[k]? =some c->∃v,w.cell? ⟨b,off+k,none⟩=some v/\v.oneCell'=true/\R tp I w v c:=λk c hk=>by
    have K:=(qBc.1 hk).1;rw[aR (λd J=>(U d J).2),qBO,u]at K;have L:k=(k/Cod.wd Y) *Cod.wd Y+k % Cod.wd Y:=by have:=qCx k (Cod.wd Y);rw[qDc]at this;omega
    have A:k % Cod.wd Y<Cod.wd Y:=qCw _ h0;have W:k/Cod.wd Y<len:=qC3 (by rw[qDc];exact K);have Z:=gG (es:=es.map Cod.enc) (λd J=>(U d J).2) (i:=k/Cod.wd Y) A;rw[<-L,hk,F ⟨k/Cod.wd Y,W⟩]at Z;simp only[qBz]at Z;obtain⟨v,h1,h2⟩:=r ⟨k/Cod.wd Y,W⟩ (k % Cod.wd Y) A;simp only at h2;rw[<-L]at h2;exact⟨v,h2,(hg ⟨k/Cod.wd Y,W⟩).2.2 _ v c h1 Z.symm⟩
   have hR:R tp I w (.slice (some ⟨b,off,none⟩) len cap) (.list (Cod.wd Y) (es.map Cod.enc)):=by
    have M:(es.map (Cod.enc (X:=Y))).length=len:=by simp[u]
    rw[<-M];have rd:∀(k:Nat) (c:D),(bk (es.map Cod.enc))[k]? =some c->w.cell? ⟨b,off+k,none⟩=some ((w.cell? ⟨b,off+k,none⟩).getD Go.undef):=λk c hk=>by
     obtain⟨v,h1,_⟩:=q k c hk;rw[h1];rfl
    refine .list b off cap _ (es.map Cod.enc) (λk=>(w.cell? ⟨b,off+k,none⟩).getD Go.undef) (hI b hb) (by rw[M];exact hl) hm (λh=>absurd Q h) U rd (λk c hk=>?_) (λk c hk=>?_)
    ·obtain⟨v,h1,h2,_⟩:=q k c hk;rw[h1];exact h2
    ·obtain⟨v,h1,_,h2⟩:=q k c hk;rw[h1];exact h2
   exact⟨es,one _ es rfl hR⟩
end
variable {dq:Prop}
section
variable {H:Type}{ec:TypeId×Value->H}{P:Program}{w:World}{base:Nat}{spare:Nat->Bool}{held:Bool}{tp I:Nat->Prop}
end
abbrev qtG(w:World):Nat->Prop:=aW (λ_=>False) (λ_=>False) cX w
def qfX{w:World}{b:Nat}(h:b<w.heap.size):qtG w b:=⟨h,λh=>h,λh=>h,λ⟨i,r,h,_⟩=>by simp[cX]at h⟩
end
section
open Go.ChangeShapes Go.WideShapes Go.ChangeAt Go.RowKit
section
variable {H:Type}{ec:TypeId×Value->H}{P:Program}{w:World}{base:Nat}{spare:Nat->Bool}{held:Bool}{tp I:Nat->Prop}
end
open Cod (enc dec)
instance:Cod UInt8 where
 wd:=1
 enc n:= .v (.int .u8 n.toNat)
 dec| .v (.int .u8 n)=>if 0<=n/\n<=255 then some (UInt8.ofNat n.toNat)else none|_=>none
 kn _:=rfl
 wid _:=rfl
 dec_enc n:=by
  have:=n.toNat_lt;simp only;rw[if_pos (by omega)];congr 1;rw[qC9,UInt8.ofNat_toNat]
 le d x h:=by
  split at h
  ·split at h
   ·rename_i n hn;cases h;have e:((UInt8.ofNat n.toNat).toNat:Int)=n:=by
     rw[qCz];omega
    show FrzTo cX _ (.v (.int .u8 ((UInt8.ofNat n.toNat).toNat:Int)));rw[e];exact .same _
   ·cases h
  ·cases h
variable {dq:Prop}
section
variable {H:Type}{ec:TypeId×Value->H}{P:Program}{w:World}{base:Nat}{spare:Nat->Bool}{held:Bool}{tp I:Nat->Prop}
end
theorem ZB{P:Program}{f:Nat}{X:Type}{A:fm X}{p:X->Prop}{q:X->Bool->Prop}(h:Tri dq P f (aA A p (Cod.enc (X:=Bool)) q).pt)(l:∀x y,q x y->y=true){w:World}{vs:List Value}{ds:List D}{x:X}(hp:p x)(hlen:vs.length=ds.length)
 (t:∀(k:Nat) (y:Value) (c:D),vs[k]? =some y->ds[k]? =some c->R (λ_=>False) (qtG w) w y c) (a:A.dec ds=some x) (u:GlW (λ_=>False) (λ_=>False) w):
 Calls P f vs.toArray w λe w'=>e= .returned (.bool true)/\Below w.heap.size w w':=by
 obtain⟨_,hc⟩:=h (λ_=>False) (λ_=>False) w vs ds cX 0 (λr H'=>r= .v (.bool true)) (λb h=>h.elim) ⟨λb h=>h.elim,u.mono (λ_ h=>h) (λb ⟨i,r,h,_⟩=>by simp[cX]at h)⟩
  ⟨λi j r s b h=>by simp[cX]at h,λi r b h=>by simp[cX]at h,λi r h=>by simp[cX]at h⟩ hlen t
  (by rw[pm,a];exact⟨hp,λy C=>by rw[l x y C];rfl⟩)
 refine hc.mono ?_;rintro e w' ⟨v,r,H',E,rfl,F,_,_,_,hs,_,_,J⟩;subst F;have d:=J.inv_v;subst d;exact⟨rfl,hs.os,hs.tape,hs.output,hs.size,λk hk=>hs.same k hk (λ⟨i,r,h,_⟩=>by simp[cX]at h) (λh=>h)⟩
end
end Go.Gv
