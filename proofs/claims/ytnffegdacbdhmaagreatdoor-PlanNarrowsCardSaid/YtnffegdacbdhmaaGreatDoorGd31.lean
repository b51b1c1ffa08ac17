/- Fr -/
import Derived.ProofKit
import Derived.OpenShut
import Derived.ShutString
import Derived.ChangeOld
import Derived.Test.YtnffegdacbdhmaaGreatDoorGd14
set_option linter.all false
namespace Go.Gv
open Go.ChangeShapes Go.WideShapes Go.ChangeAt Go.RowKit
section
variable {H:Type}{ec:TypeId×Value->H}{P:Program}{w:World}{base:Nat}{spare:Nat->Bool}{held:Bool}{tp I:Nat->Prop}
def OpR(tp I:Nat->Prop)(w:World)(cs:List Value)(d:D):Prop:=cs.length=d.cells.length/\∀(k:Nat) (y:Value) (c:D),cs[k]? =some y->d.cells[k]? =some c->y.oneCell'=true/\R tp I w y c
def OpR.one{y:Value}{d:D}(h:OpR tp I w [y] d)(hd:d.cells=[d]):R tp I w y d:=(h.2 0 y d rfl (by rw[hd];rfl)).2
def YR{t:TypeId}{fuel:Nat}{cs:List Value}{x:DataW H×List MemPlace}(ht:P.underlying t=some (.int .i64))(h:DataW.trod ec P w base spare held fuel t cs=some x):∃n:Int,OpR tp I w cs (Cod.enc n):=by
 obtain⟨n,rfl,_,_⟩:=DataW.trod_int ht h;refine⟨n,rfl,λk y c h1 h2=>?_⟩;cases k with
 |zero=>cases h1;cases h2;exact⟨rfl, .v _ rfl (λs h=>by cases h)⟩
 |succ k=>simp at h1
theorem Mp{Y:Type}[Cod Y]{t e:TypeId}(ht:P.underlying t=some (.slice e))(hc:P.cellsOf e=Cod.wd Y)(h0:0<Cod.wd Y)
 (hel:∀(n:Nat) (cs:List Value) (x:DataW H×List MemPlace),DataW.trod ec P w base spare held n e cs=some x->∃y:Y,OpR tp I w cs (Cod.enc y)) (hI:∀b,b<w.heap.size->I b)
 {fuel:Nat} {cs:List Value} {x:DataW H×List MemPlace} (h:DataW.trod ec P w base spare held fuel t cs=some x) (h1w:Cod.wd Y=1:=by rfl):∃l:List Y,OpR tp I w cs (Cod.enc l):=by
 have one:∀(v:Value) (l:List Y),v.oneCell'=true->R tp I w v (.list (Cod.wd Y) (l.map Cod.enc))->OpR tp I w [v] (Cod.enc l):=λv l h1 h2=>⟨rfl,λk y c e1 e2=>by
  cases k with
  |zero=>cases e1;cases e2;exact⟨h1,h2⟩
  |succ k=>simp at e1⟩
 rcases DataW.trod_slice ht h with⟨rfl,_⟩|⟨a,len,cap,elems,rest,n,_,rfl,_,_,hl,hm,hlen,hel',_⟩
 ·exact⟨[],one _ [] rfl (.nolist none 0 _)⟩
 ·by_cases hz:len=0
  ·subst hz;exact⟨[],one _ [] rfl (.nolist (some a) cap _)⟩
  ·have each:∀i:_root_.Fin len,∃p:List Value×Y,w.cells? base (a.add (i*P.cellsOf e)) (P.cellsOf e)=some p.1/\OpR tp I w p.1 (Cod.enc p.2):=λi=>by
    have h1:=hel' i i.2;rw[qzX (by omega)]at h1;obtain⟨cs',h2,h3⟩:=qzU.1 h1;obtain⟨y,hy⟩:=hel n cs' _ h3;exact⟨(cs',y),h2,hy⟩
   obtain⟨g,hg⟩:=qBS each;obtain⟨b,off,spot⟩:=a;have cellAt:∀(i:_root_.Fin len) (j:Nat),j<Cod.wd Y->∃v,(g i).1[j]? =some v/\w.cell? ((Addr.add ⟨b,off,spot⟩ (i*Cod.wd Y)).add j)=some v:=λi j hj=>by
    have h1:=World.cells?_some (hg i).1;have h2:=h1.2.2 j (by rw[hc];exact hj);have h3:j<(g i).1.length:=by rw[h1.2.1,hc];exact hj
    refine⟨(g i).1[j],qzX h3,?_⟩;rw[hc]at h2;rw[h2,qzX h3]
   have hs:spot=none:=by
    obtain⟨v,_,h2⟩:=cellAt ⟨0,by omega⟩ 0 h0;have:=World.cell?_spot h2;simpa [Addr.add]using this
   subst hs;have hadd:∀(o n:Nat),Addr.add ⟨b,o,none⟩ n=⟨b,o+n,none⟩:=λo n=>by
    unfold Addr.add;split
    ·rename_i e;subst e;rfl
    ·rfl
   have cellAt':∀(i:_root_.Fin len) (j:Nat),j<Cod.wd Y->∃v,(g i).1[j]? =some v/\w.cell? ⟨b,off+ (i*Cod.wd Y+j),none⟩=some v:=λi j hj=>by
    obtain⟨v,h1,h2⟩:=cellAt i j hj;refine⟨v,h1,?_⟩;rw[hadd,hadd]at h2;rw[<-qBu];exact h2
   have hb:b<w.heap.size:=by
    obtain⟨v,_,h2⟩:=cellAt' ⟨0,by omega⟩ 0 h0;unfold World.cell? at h2;by_cases hlt:b<w.heap.size
    ·exact hlt
    ·simp only[qBn (Nat.le_of_not_lt hlt)]at h2;cases h2
   let es:List Y:=List.ofFn λi=>(g i).2
   have hesl:es.length=len:=by simp[es]
   have hesi:∀i:_root_.Fin len,(es.map Cod.enc)[(i:Nat)]? =some (Cod.enc (g i).2):=λi=>by
    rw[qz7];have:es[(i:Nat)]? =some (g i).2:=by simp[es]
    rw[this];rfl
   have hw:∀d∈es.map Cod.enc,d.kn=true/\d.cells.length=Cod.wd Y:=λd hd=>by
    obtain⟨y,_,rfl⟩:=qz1.1 hd;exact⟨Cod.kn y,Cod.wid y⟩
   have flatAt:∀(k:Nat) (c:D),(be (es.map Cod.enc))[k]? =some c->∃v,w.cell? ⟨b,off+k,none⟩=some v/\v.oneCell'=true/\R tp I w v c:=λk c hk=>by
    have hkl:=(qzV.1 hk).1;rw[aY (λd hd=>(hw d hd).2),qAs,hesl]at hkl;have hdm:k=(k/Cod.wd Y) *Cod.wd Y+k % Cod.wd Y:=by have:=qBH k (Cod.wd Y);rw[qBo]at this;omega
    have hmod:k % Cod.wd Y<Cod.wd Y:=qBG _ h0;have hq:k/Cod.wd Y<len:=qB1 (by rw[qBo];exact hkl);have g1:=hU (es:=es.map Cod.enc) (λd hd=>(hw d hd).2) (i:=k/Cod.wd Y) hmod;rw[<-hdm,hk,hesi ⟨k/Cod.wd Y,hq⟩]at g1;simp only[qAh]at g1;obtain⟨v,h1,h2⟩:=cellAt' ⟨k/Cod.wd Y,hq⟩ (k % Cod.wd Y) hmod;simp only at h2;rw[<-hdm]at h2;exact⟨v,h2,(hg ⟨k/Cod.wd Y,hq⟩).2.2 _ v c h1 g1.symm⟩
   have hR:R tp I w (.slice (some ⟨b,off,none⟩) len cap) (.list (Cod.wd Y) (es.map Cod.enc)):=by
    have hll:(es.map (Cod.enc (X:=Y))).length=len:=by simp[hesl]
    rw[<-hll];have rd:∀(k:Nat) (c:D),(be (es.map Cod.enc))[k]? =some c->w.cell? ⟨b,off+k,none⟩=some ((w.cell? ⟨b,off+k,none⟩).getD Go.undef):=λk c hk=>by
     obtain⟨v,h1,_⟩:=flatAt k c hk;rw[h1];rfl
    refine .list b off cap _ (es.map Cod.enc) (λk=>(w.cell? ⟨b,off+k,none⟩).getD Go.undef) (hI b hb) (by rw[hll];exact hl) hm (λh=>absurd h1w h) hw rd (λk c hk=>?_) (λk c hk=>?_)
    ·obtain⟨v,h1,h2,_⟩:=flatAt k c hk;rw[h1];exact h2
    ·obtain⟨v,h1,_,h2⟩:=flatAt k c hk;rw[h1];exact h2
   exact⟨es,one _ es rfl hR⟩
end
variable {dq:Prop}
section
variable {H:Type}{ec:TypeId×Value->H}{P:Program}{w:World}{base:Nat}{spare:Nat->Bool}{held:Bool}{tp I:Nat->Prop}
end
abbrev qpE(w:World):Nat->Prop:=bh (λ_=>False) (λ_=>False) cY w
def YV{w:World}{b:Nat}(h:b<w.heap.size):qpE w b:=⟨h,λh=>h,λh=>h,λ⟨i,r,h,_⟩=>by simp[cY]at h⟩
end Go.Gv
namespace Go.Gv
open Go.ChangeShapes Go.WideShapes Go.ChangeAt Go.RowKit
section
variable {H:Type}{ec:TypeId×Value->H}{P:Program}{w:World}{base:Nat}{spare:Nat->Bool}{held:Bool}{tp I:Nat->Prop}
end
open Cod (enc dec)
instance:Cod UInt8 where
 wd:=1
 enc n:= .v (.int .u8 n.toNat)
 dec| .v (.int .u8 n)=>if 0<=n/\n<=255 then some (UInt8.ofNat n.toNat)else none|_=>none
 kn _:=rfl
 wid _:=rfl
 dec_enc n:=by
  have:=n.toNat_lt;simp only;rw[if_pos (by omega)];congr 1;rw[qCb,UInt8.ofNat_toNat]
 le d x h:=by
  split at h
  ·split at h
   ·rename_i n hn;cases h;have e:((UInt8.ofNat n.toNat).toNat:Int)=n:=by
     rw[qBI];omega
    show FrzTo cY _ (.v (.int .u8 ((UInt8.ofNat n.toNat).toNat:Int)));rw[e];exact .same _
   ·cases h
  ·cases h
variable {dq:Prop}
section
variable {H:Type}{ec:TypeId×Value->H}{P:Program}{w:World}{base:Nat}{spare:Nat->Bool}{held:Bool}{tp I:Nat->Prop}
end
theorem Y0{P:Program}{f:Nat}{X:Type}{A:fT X}{p:X->Prop}{q:X->Bool->Prop}(h:Tri dq P f (aL A p (Cod.enc (X:=Bool)) q).pt)(hq:∀x y,q x y->y=true){w:World}{vs:List Value}{ds:List D}{x:X}(hp:p x)(hlen:vs.length=ds.length)
 (hR:∀(k:Nat) (y:Value) (c:D),vs[k]? =some y->ds[k]? =some c->R (λ_=>False) (qpE w) w y c) (hdec:A.dec ds=some x) (hG:GlW (λ_=>False) (λ_=>False) w):
 Calls P f vs.toArray w λe w'=>e= .returned (.bool true)/\Below w.heap.size w w':=by
 obtain⟨_,hc⟩:=h (λ_=>False) (λ_=>False) w vs ds cY 0 (λr H'=>r= .v (.bool true)) (λb h=>h.elim) ⟨λb h=>h.elim,hG.mono (λ_ h=>h) (λb ⟨i,r,h,_⟩=>by simp[cY]at h)⟩
  ⟨λi j r s b h=>by simp[cY]at h,λi r b h=>by simp[cY]at h,λi r h=>by simp[cY]at h⟩ hlen hR
  (by rw[nQ,hdec];exact⟨hp,λy hy=>by rw[hq x y hy];rfl⟩)
 refine hc.mono ?_;rintro e w' ⟨v,r,H',tp',rfl,hr,_,_,_,hs,_,_,hv⟩;subst hr;have hv':=hv.inv_v;subst hv';exact⟨rfl,hs.os,hs.tape,hs.output,hs.size,λk hk=>hs.same k hk (λ⟨i,r,h,_⟩=>by simp[cY]at h) (λh=>h)⟩
end Go.Gv
