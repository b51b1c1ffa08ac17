/- W232 -/
import Derived.ProofKit
import Derived.OpenShut
import Derived.ShutString
import Derived.ChangeOld
import Derived.Test.YtmakafgajmnflaaGreatDoorGf27
set_option linter.all false
set_option maxRecDepth 100000
open Bool renaming forall_bool → fB', exists_bool → eB'
namespace Go.Gv
section
open Go.Proofs
open Cod (enc dec)
variable {S S0:Nat->Spc}
def qlP:B:=⟨#[40,34,97,34,32,34,98,34,41,123,50,125,32,34,99,34]⟩
def qae(l:List Pat):Pat:=⟨4,qd,E0,E0,0,0,l⟩
def ql5:Pat:=qae [⟨6,qd,E0,E0,2,2, [qae [OR 97,OR 98]]⟩,OR 99]
def q31:Qry:=⟨ql5,GlobE, [],0⟩
def qn9:qyf qlP q31=true:=by kernel_rfl
def qqS:srcL ql5 0 0=[⟨0,0⟩,⟨1,1⟩,⟨0,2⟩,⟨1,3⟩,⟨2,4⟩]:=by kernel_rfl
theorem qma:qb (λq=>vK q/\nD aK q=true) ql5:=by
 have a:∀q:Pat,q.op≠2->q.op≠3->q.lab=⟨#[]⟩->nD aK q=true:=λq h2 h3 h=>by
  unfold nD;rw[decide_eq_true_eq];exact⟨λb=>by omega,λb=>absurd h b⟩
 intro q c;have:q∈ [ql5,⟨6,qd,E0,E0,2,2, [qae [OR 97,OR 98]]⟩,qae [OR 97,OR 98],OR 97,OR 98,OR 99]:=c;simp only[qCm,qCN,or_false]at this;rcases this with rfl|rfl|rfl|rfl|rfl|rfl
 ·exact⟨.inr (.inr (.inl ⟨.inl rfl,rfl,rfl,rfl,rfl,rfl,by decide⟩)),a _ (by decide) (by decide) rfl⟩
 ·exact⟨.inr (.inr (.inr ⟨rfl,rfl,rfl,rfl,rfl⟩)),a _ (by decide) (by decide) rfl⟩
 ·exact⟨.inr (.inr (.inl ⟨.inl rfl,rfl,rfl,rfl,rfl,rfl,by decide⟩)),a _ (by decide) (by decide) rfl⟩
 all_goals exact⟨.inl ⟨rfl,rfl,rfl,rfl,rfl⟩,a _ (by decide) (by decide) rfl⟩
def qrc:fJ aK ql5=true:=by
 unfold fJ;rw[qaP ql5 (yf qma λq h=>(tY q).2 h.1),qaP ql5 (yf qma λq h=>h.2)]
 kernel_rfl
def qng{y:List Span}(h:rK ql5 y):y=[⟨0,0⟩,⟨0,2⟩,⟨1,1⟩,⟨1,3⟩,⟨2,4⟩]:=by
 unfold rK at h;rw[if_pos ⟨qrc,by decide⟩]at h;refine h.eq (qcv (by simp[SS,Ql]) λs=>?_);rw[qqS];simp only[qCm,qCN,or_false];constructor
 ·rintro(h|h|h|h|h)<;>simp[h]
 ·rintro(h|h|h|h|h)<;>simp[h]
abbrev PW:Spc:=aJ a0 (λ_=>True) (enc (X:=Bool)) λ_ y=>y=true
def qch(h1:S we=Vf qlP q31)(h2:S lB=qg)(h3:S EG=Md):aq vE uF S a0 (λ_=>True) (enc (X:=Bool)) λ_ y=>y=true:=by
 rintro⟨⟩ -;have a:Ho q31.pat:=⟨by decide,by decide⟩
 simp[vE,uF,h1,h2,h3,a,-fB'];refine⟨rfl,λy b=>?_⟩;rw[qng b]
def qeB{c:Corpus}{i:Int}{t:ro}(h:Yt c i=some t):HU c i=(t,true):=by
 unfold HU;have e:qpS i=λt:ro=>decide (t.b<=i) && decide (i<t.e):=by
  funext t;simp[qpS,Bool.decide_and]
 rw[e];have h:c.texts.find? (λt:ro=>decide (t.b<=i) && decide (i<t.e))=some t:=h;rw[h]
abbrev qqY:Spc:=aJ (a2 (List Int) (List Int)) (λ_=>True) (enc (X:=Bool)) λ_ y=>y=true
theorem Ut(h1:S Te=s_m_New)(h2:S sP=s_m_Corpus)(h3:S uZ=Mh)(h4:S sM=qfe TM)(h5:S wY=PW)(h6:S zH=FR)(h7:S lB=qg)(h8:S nb=ql0)(h9:S zG=FQ):
 aq ic gQ S (a2 (List Int) (List Int)) (λ_=>True) (enc (X:=Bool)) λ_ y=>y=true:=by
 rintro⟨l,m⟩ -;simp[ic,gQ,h1,h2,h3,-fB',-eB'];refineλc hw hk hl L q I b1 b2=>?_
 have hc:qb3 c:=⟨qnO hw hk,by omega⟩
 have hM:X1 TM c q:=Wf hc I (by show 3<=5;decide);have p:=(ZH hc I (by show 3<=5;decide)).1;have hfew:=hc.few;have a:=p.pat;have M:(am q.pat).length<=100000000:=by have:=uM q.pat;have:=p.fx.1;omega
 have r:Ho q.pat:=p.fx;clear h1 h2 h3 hk hl;simp[h4,hM,-fB',-eB'];intro x e hQ;rcases hQ with⟨u,J,N⟩|⟨u,e1,_⟩
 rotate_left
 ·simp only at u e1;subst u;subst e1;simp[h5,-fB',-eB']
 simp only at u J N;subst u;simp[h6,h7,M,r,a,-fB',-eB'];intro F h hFl;have h:SrcsOf q.pat F:=by
  have h:rK q.pat F:=h;unfold rK at h;rwa [if_pos ⟨a,p.size⟩]at h
 have hit:∀s∈F,∀m∈x,∃t y,Yt c m.b=some t/\(am q.pat)[s.b.toNat]? =some y/\0<=s.b/\0<=s.e/\m.b+s.e<t.e/\m.b+s.e<c.toks.length/\m.b+s.e∈U9 c y.cond:=
  λs hs m hm=>qge hc I (by show 3<=5;decide) ((J.2 m).1 hm) ((h.2 s).1 hs)
 have w:∀s∈F,0<=s.b/\s.b<(am q.pat).length/\0<=s.e/\s.e<=200000*ff q.pat:=λs hs=>by
  have:=qab q.pat a 0 0 s ((h.2 s).1 hs);omega
 have hnum:ff q.pat<=1000000:=r.1;have A:=p.sel;have O:∀m∈x,0<=m.b:=λm hm=>((J.2 m).1 hm).1
 clear J hw I hM;refine ah (X:=Unit) [5,7,9,46] [5] F.length (λ_ _=>True) (λ_=>[]) (λ_=>[]) () trivial ?_ ?_
 ·rintro k -hk -;obtain⟨s,hs⟩:=nr hk;obtain⟨_,Q⟩:=qCd.1 hs;have C:s∈F:=qCg hs;obtain⟨r1,r2,r3,r4⟩:=w s C;obtain⟨y,K⟩:=nr (show s.b.toNat<(am q.pat).length by omega);obtain⟨hyl,U⟩:=qCd.1 K;have hP:=A y (qCg K);have hit:=hit s C;simp[hk,hs,Q,K,U,h8,hP,r1,r2,r3,-fB',-eB'];intro b hlq v hsl;refine ah (X:=List Int) [5,7,9,11,12,46,47,48,81] [5,11] (U9 c y.cond).length (λk ks=>∀i,i∈ks↔i∈ (U9 c y.cond).take k) (λ_=>[]) (λks=>[(67, .mrow v (bB ks))]) [] (by simp) ?_ ?_ (hh:=by simp;exact .inl rfl)
  ·rintro k ks hk d;obtain⟨i,hi⟩:=nr hk;obtain⟨_,W⟩:=qCd.1 hi;simp[hk,hi,W,-fB',-eB'];exact qaa (X:=Int) Wn rfl ⟨yn i ks,λj=>by rw[ft,d,aB hi];simp[or_comm], .inl rfl⟩
  rintro ks d;rw[qCx]at d;simp[-fB',-eB'];intro hxl2;refine ah (X:=Unit) [5,7,9,11,12,46,47,48,90] [5,11,67] x.length (λ_ _=>True) (λ_=>[]) (λ_=>[]) () trivial ?_ ?_
  ·rintro k -hk -;obtain⟨m,hm⟩:=nr hk;obtain⟨_,Y⟩:=qCd.1 hm;obtain⟨t,y',ht,E,_,_,g2,g3,g4⟩:=hit m (qCg hm);rw[K]at E;cases E;have Z:=qeB ht;have hin:m.b+s.e∈ks:=(d _).2 g4;simp[hk,hm,Y,h9,Z,hin,g2,-fB',-eB'];have h0:=O m (qCg hm);exact⟨by omega,by omega⟩
  ·rintro - -;simp[-fB',-eB']
 ·rintro - -;simp[h5,-fB',-eB']
end
section
open Go.Proofs Cod
variable {dq:Prop}
def FB:TQ dq jU Vs:=
 ac (ag (aa tw ae)) El (Fl rfl)
def wl:∀n,TQ dq bD (FZ n)
 | 0=>bU λx h=>qoS h
 | n+1=>
   have h1:TQ dq eM (VB Cond (FG [(bD,FZ n)])):=ac (ag (aa (wl n) ae)) mA (PA);have h2:TQ dq bC (VC Cond (FG [(bD,FZ n)])):=ac (ag (aa h1 ae)) jP (PB rfl)
   ac (ag (aa h2 ae)) Gs (HO (S0:=(FG [(bD,FZ n)])) n rfl rfl)
def Jh:TQ dq bD Vn:=ei (λn=>wl n) (gh (λx h=>h))
def vI:∀n,TQ dq dC (Vr n)
 | 0=>bU λx h=>qoS h.1
 |n+1=>dc (ag (aa Jh (aa (vI n) ae))) Ek (λ_=>qCh rfl) (Fk n rfl rfl)
def Hg:TQ dq dC qaw:=ei (λn=>vI n) (gh (λx h=>h))
def DU:TQ dq nb ql0:=
 ac (ag (aa FB (aa Hg (aa sq (aa (nq 21) ae))))) C5 (qem rfl rfl rfl rfl)
def Rs:TQ dq zG FQ:=
 ac (ag ae) OW (Q5)
def OQ:TQ dq wY PW:=
 ac (ag (aa (qeG qn9) (aa xR (aa Yp ae)))) MW (qch rfl rfl rfl)
def UQ:TQ dq pk qqY:=
 ac (ag (aa qjC (aa Km (aa LQ (aa qcK (aa OQ (aa Rv (aa xR (aa DU (aa Rs ae)))))))))) yj (Ut rfl rfl rfl rfl rfl rfl rfl rfl rfl)
end
section
open Go.ChangeShapes Go.WideShapes Go.ChangeAt Go.RowKit
section
variable {H:Type}{ec:TypeId×Value->H}{P:Program}{w:World}{base:Nat}{spare:Nat->Bool}{held:Bool}{tp I:Nat->Prop}
def OpR(tp I:Nat->Prop)(w:World)(cs:List Value)(d:D):Prop:=cs.length=d.cells.length/\∀(k:Nat) (y:Value) (c:D),cs[k]? =some y->d.cells[k]? =some c->y.oneCell'=true/\R tp I w y c
theorem OpR.one{y:Value}{d:D}(h:OpR tp I w [y] d)(a:d.cells=[d]):R tp I w y d:=(h.2 0 y d rfl (by rw[a];rfl)).2
def qfO{t:TypeId}{fuel:Nat}{cs:List Value}{x:DataW H×List MemPlace}(a:P.underlying t=some (.int .i64))(h:DataW.trod ec P w base spare held fuel t cs=some x):∃n:Int,OpR tp I w cs (Cod.enc n):=by
 obtain⟨n,rfl,_,_⟩:=DataW.trod_int a h;refine⟨n,rfl,λk y c h1 h2=>?_⟩;cases k with
 |zero=>cases h1;cases h2;exact⟨rfl, .v _ rfl (λs h=>by cases h)⟩
 |succ k=>simp at h1
theorem VK{Y:Type}[Cod Y]{t e:TypeId}(ht:P.underlying t=some (.slice e))(hc:P.cellsOf e=Cod.wd Y)(h0:0<Cod.wd Y)
 (O:∀(n:Nat) (cs:List Value) (x:DataW H×List MemPlace),DataW.trod ec P w base spare held n e cs=some x->∃y:Y,OpR tp I w cs (Cod.enc y)) (hI:∀b,b<w.heap.size->I b)
 {fuel:Nat} {cs:List Value} {x:DataW H×List MemPlace} (h:DataW.trod ec P w base spare held fuel t cs=some x) (Q:Cod.wd Y=1:=by rfl):∃l:List Y,OpR tp I w cs (Cod.enc l):=by
 have one:∀(v:Value) (l:List Y),v.oneCell'=true->R tp I w v (.list (Cod.wd Y) (l.map Cod.enc))->OpR tp I w [v] (Cod.enc l):=λv l h1 h2=>⟨rfl,λk y c e1 e2=>by
  cases k with
  |zero=>cases e1;cases e2;exact⟨h1,h2⟩
  |succ k=>simp at e1⟩
 rcases DataW.trod_slice ht h with⟨rfl,_⟩|⟨a,len,cap,S,rest,n,_,rfl,_,_,hl,hm,hlen,C,_⟩
 ·exact⟨[],one _ [] rfl (.nolist none 0 _)⟩
 ·by_cases hz:len=0
  ·subst hz;exact⟨[],one _ [] rfl (.nolist (some a) cap _)⟩
  ·have each:∀i:_root_.Fin len,∃p:List Value×Y,w.cells? base (a.add (i*P.cellsOf e)) (P.cellsOf e)=some p.1/\OpR tp I w p.1 (Cod.enc p.2):=λi=>by
    have h1:=C i i.2;rw[qCe (by omega)]at h1;obtain⟨cs',h2,h3⟩:=qCc.1 h1;obtain⟨y,hy⟩:=O n cs' _ h3;exact⟨(cs',y),h2,hy⟩
   obtain⟨g,hg⟩:=qD4 each;obtain⟨b,off,spot⟩:=a;have cellAt:∀(i:_root_.Fin len) (j:Nat),j<Cod.wd Y->∃v,(g i).1[j]? =some v/\w.cell? ((Addr.add ⟨b,off,spot⟩ (i*Cod.wd Y)).add j)=some v:=λi j N=>by
    have h1:=World.cells?_some (hg i).1;have h2:=h1.2.2 j (by rw[hc];exact N);have h3:j<(g i).1.length:=by rw[h1.2.1,hc];exact N
    refine⟨(g i).1[j],qCe h3,?_⟩;rw[hc]at h2;rw[h2,qCe h3]
   have hs:spot=none:=by
    obtain⟨v,_,h2⟩:=cellAt ⟨0,by omega⟩ 0 h0;have:=World.cell?_spot h2;simpa [Addr.add]using this
   subst hs;have s:∀(o n:Nat),Addr.add ⟨b,o,none⟩ n=⟨b,o+n,none⟩:=λo n=>by
    unfold Addr.add;split
    ·rename_i e;subst e;rfl
    ·rfl
   have r:∀(i:_root_.Fin len) (j:Nat),j<Cod.wd Y->∃v,(g i).1[j]? =some v/\w.cell? ⟨b,off+ (i*Cod.wd Y+j),none⟩=some v:=λi j N=>by
    obtain⟨v,h1,h2⟩:=cellAt i j N;refine⟨v,h1,?_⟩;rw[s,s]at h2;rw[<-qEm];exact h2
   have hb:b<w.heap.size:=by
    obtain⟨v,_,h2⟩:=r ⟨0,by omega⟩ 0 h0;unfold World.cell? at h2;by_cases E:b<w.heap.size
    ·exact E
    ·simp only[qDN (Nat.le_of_not_lt E)]at h2;cases h2
   let es:List Y:=List.ofFn λi=>(g i).2
   have u:es.length=len:=by simp[es]
   have F:∀i:_root_.Fin len,(es.map Cod.enc)[(i:Nat)]? =some (Cod.enc (g i).2):=λi=>by
    rw[qCu];have:es[(i:Nat)]? =some (g i).2:=by simp[es]
    rw[this];rfl
   have U:∀d∈es.map Cod.enc,d.kn=true/\d.cells.length=Cod.wd Y:=λd J=>by
    obtain⟨y,_,rfl⟩:=qCo.1 J;exact⟨Cod.kn y,Cod.wid y⟩
   have q:∀(k:Nat) (c:D),(ba (es.map Cod.enc))[k]? =some c->∃v,w.cell? ⟨b,off+k,none⟩=some v/\v.oneCell'=true/\R tp I w v c:=λk c hk=>by
    have K:=(qCd.1 hk).1;rw[aS (λd J=>(U d J).2),qC6,u]at K;have L:k=(k/Cod.wd Y) *Cod.wd Y+k % Cod.wd Y:=by have:=qDn k (Cod.wd Y);rw[qD2]at this;omega
    have A:k % Cod.wd Y<Cod.wd Y:=qDs _ h0;have W:k/Cod.wd Y<len:=qEf (by rw[qD2];exact K);have Z:=dJ (es:=es.map Cod.enc) (λd J=>(U d J).2) (i:=k/Cod.wd Y) A;rw[<-L,hk,F ⟨k/Cod.wd Y,W⟩]at Z;simp only[qCy]at Z;obtain⟨v,h1,h2⟩:=r ⟨k/Cod.wd Y,W⟩ (k % Cod.wd Y) A;simp only at h2;rw[<-L]at h2;exact⟨v,h2,(hg ⟨k/Cod.wd Y,W⟩).2.2 _ v c h1 Z.symm⟩
   have hR:R tp I w (.slice (some ⟨b,off,none⟩) len cap) (.list (Cod.wd Y) (es.map Cod.enc)):=by
    have M:(es.map (Cod.enc (X:=Y))).length=len:=by simp[u]
    rw[<-M];have rd:∀(k:Nat) (c:D),(ba (es.map Cod.enc))[k]? =some c->w.cell? ⟨b,off+k,none⟩=some ((w.cell? ⟨b,off+k,none⟩).getD Go.undef):=λk c hk=>by
     obtain⟨v,h1,_⟩:=q k c hk;rw[h1];rfl
    refine .list b off cap _ (es.map Cod.enc) (λk=>(w.cell? ⟨b,off+k,none⟩).getD Go.undef) (hI b hb) (by rw[M];exact hl) hm (λh=>absurd Q h) U rd (λk c hk=>?_) (λk c hk=>?_)
    ·obtain⟨v,h1,h2,_⟩:=q k c hk;rw[h1];exact h2
    ·obtain⟨v,h1,_,h2⟩:=q k c hk;rw[h1];exact h2
   exact⟨es,one _ es rfl hR⟩
end
variable {dq:Prop}
section
variable {H:Type}{ec:TypeId×Value->H}{P:Program}{w:World}{base:Nat}{spare:Nat->Bool}{held:Bool}{tp I:Nat->Prop}
end
abbrev qud(w:World):Nat->Prop:=aN (λ_=>False) (λ_=>False) bV w
def qf2{w:World}{b:Nat}(h:b<w.heap.size):qud w b:=⟨h,λh=>h,λh=>h,λ⟨i,r,h,_⟩=>by simp[bV]at h⟩
end
section
open Go.ChangeShapes Go.WideShapes Go.ChangeAt Go.RowKit
section
variable {H:Type}{ec:TypeId×Value->H}{P:Program}{w:World}{base:Nat}{spare:Nat->Bool}{held:Bool}{tp I:Nat->Prop}
end
open Cod (enc dec)
instance:Cod UInt8 where
 wd:=1
 enc n:= .v (.int .u8 n.toNat)
 dec| .v (.int .u8 n)=>if 0<=n/\n<=255 then some (UInt8.ofNat n.toNat)else none|_=>none
 kn _:=rfl
 wid _:=rfl
 dec_enc n:=by
  have:=n.toNat_lt;simp only;rw[if_pos (by omega)];congr 1;rw[qEF,UInt8.ofNat_toNat]
 le d x h:=by
  split at h
  ·split at h
   ·rename_i n hn;cases h;have e:((UInt8.ofNat n.toNat).toNat:Int)=n:=by
     rw[qDL];omega
    show FrzTo bV _ (.v (.int .u8 ((UInt8.ofNat n.toNat).toNat:Int)));rw[e];exact .same _
   ·cases h
  ·cases h
variable {dq:Prop}
section
variable {H:Type}{ec:TypeId×Value->H}{P:Program}{w:World}{base:Nat}{spare:Nat->Bool}{held:Bool}{tp I:Nat->Prop}
end
theorem Zb{P:Program}{f:Nat}{X:Type}{A:dN X}{p:X->Prop}{q:X->Bool->Prop}(h:Tri dq P f (aJ A p (Cod.enc (X:=Bool)) q).pt)(l:∀x y,q x y->y=true){w:World}{vs:List Value}{ds:List D}{x:X}(hp:p x)(hlen:vs.length=ds.length)
 (t:∀(k:Nat) (y:Value) (c:D),vs[k]? =some y->ds[k]? =some c->R (λ_=>False) (qud w) w y c) (a:A.dec ds=some x) (u:GlW (λ_=>False) (λ_=>False) w):
 Calls P f vs.toArray w λe w'=>e= .returned (.bool true)/\Below w.heap.size w w':=by
 obtain⟨_,hc⟩:=h (λ_=>False) (λ_=>False) w vs ds bV 0 (λr H'=>r= .v (.bool true)) (λb h=>h.elim) ⟨λb h=>h.elim,u.mono (λ_ h=>h) (λb ⟨i,r,h,_⟩=>by simp[bV]at h)⟩
  ⟨λi j r s b h=>by simp[bV]at h,λi r b h=>by simp[bV]at h,λi r h=>by simp[bV]at h⟩ hlen t
  (by rw[su,a];exact⟨hp,λy C=>by rw[l x y C];rfl⟩)
 refine hc.mono ?_;rintro e w' ⟨v,r,H',E,rfl,F,_,_,_,hs,_,_,J⟩;subst F;have d:=J.inv_v;subst d;exact⟨rfl,hs.os,hs.tape,hs.output,hs.size,λk hk=>hs.same k hk (λ⟨i,r,h,_⟩=>by simp[bV]at h) (λh=>h)⟩
end
end Go.Gv
