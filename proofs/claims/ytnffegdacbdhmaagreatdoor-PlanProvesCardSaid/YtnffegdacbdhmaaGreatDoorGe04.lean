/- T2 -/
import Derived.Test.YtnffegdacbdhmaaGreatDoorGe03
set_option linter.all false
namespace Go.Gv
section
variable {dq:Prop}
inductive CI where
 |op (dst:Option Nat) (g:Option (Nat×Bool)) (c:COp)
 |frz (t n:Nat)
def CI.real:CI->Bool
 | .op _ _ _=>true
 | .frz _ _=>false
def dV(dq:Prop)(P:Program)(z:List PanicEntry->Prop)(S:Nat->Spc):CI->Prop
 | .op _ _ c=>CallOk dq P z S c
 | .frz _ _=>True
def Jk(ops:Array Oper)(o:Oper):Option (Option (Nat×Bool)):=
 match o.guard with
 |none=>some none
 |some (j,b)=>((ops[j]?).bind (·.dst)).map λd=>some (d,b)
def ft(P:Program)(im:List Nat)(N:Nat)(ops:Array Oper)(o:Oper):Option CI:=do
 let c <-da P im o
 let g <-Jk ops o
 if o.dst.all (· < N)then some (.op o.dst g c)else none
def lP(P:Program)(im:List Nat)(N:Nat)(ops:Array Oper):Option (List CI):=ops.toList.mapM (ft P im N ops)
def tF(g:Option (Nat×Bool))(σ:Sg)(c no:Sg->Prop):Prop:=
 match g with
 |none=>c σ
 | some (s,b)=>match σ s with
   | .v (.bool t)=>(t=b->c (upd σ s (.v (.bool b))))/\(t=(!b)->no (upd σ s (.v (.bool (!b)))))
   | .undef=>no σ
   | _=>False
def K4:List D->ab->(List D->ab->Prop)->Prop
 | [],H,K=>K [] H
 | .own id x::cs,H,K=>match H id with
   |some (.row b _ n es)=>b=x/\K4 cs (ai H id none) λcs' H'=>K (.list n es::cs') H'
   | _=>False
 |c::cs,H,K=>K4 cs H λcs' H'=>K (c::cs') H'
open Classical in
noncomputable def M5(id:Nat)(x:Value)(L:D):D->D
 | .own i y=>if i=id/\y=x then L else .own i y
 |d=>d
noncomputable def qgL(id:Nat)(x:Value)(L:D)(σ:Sg):Sg:=λs=>M5 id x L (σ s)
def Mb(t n:Nat)(σ:Sg)(H:ab)(K:Sg->ab->Prop):Prop:=
 match σ t with
 | .own id x=>match H id with
   |some (.row d _ h es)=>d=x/\K (qgL id x (.list h es) σ) (ai H id none)
   | _=>False
 | .bptr id b off=>match H id with
   |some (.box b' cs)=>b'=b/\K (upd σ t (.cptr cs off)) (ai H id none)
   | _=>False
 | .v (.slice none 0 0)=>K (upd σ t (.list n [])) H
 | .sub id x h lo hi=>match H id with
   |some (.row d el c es)=>d=x/\h=c/\(if n=0 then lo=0/\∀v,K (upd σ t (.own id v)) (ai H id (some (.row v el c (es.take hi))))else K (upd σ t (.list c ((es.take hi).drop lo))) (ai H id none))
   | _=>False
 | .agg cs=>K4 cs H λcs' H'=>K (upd σ t (.agg cs')) H'
 | _=>K σ H
def HQ(S:Nat->Spc):List CI->Sg->ab->(Sg->ab->Prop)->Prop
 | [],σ,H,K=>K σ H
 | .frz t n::r,σ,H,K=>Mb t n σ H λb H'=>HQ S r b H' K
 | .op dst g c::r,σ,H,K=>tF g σ (λσ=>aA S c dst σ H λd H'=>HQ S r (gx σ dst d) H' K) (λσ=>HQ S r (gx σ dst .undef) H K)
section
variable {P:Program}{im:List Nat}{a:Act}{E:CO}{tp I:Nat->Prop}{H:ab}{w:World}{σ:Sg}{S:Nat->Spc}
def StW.drop(h:StW E tp H w)(id:Nat):StW E tp (ai H id none) w/\∀x d,R tp (aR E.O tp H w) w x d->R tp (aR E.O tp (ai H id none) w) w x d:=
 h.own id none (gG w none) (λb hb=>by grind) (λr b h1=>by grind) (λ_ r h1=>by grind)
def L9(h:StW E tp H w){id b:Nat}{r:Res}(c:H id=some r)(hb:r.blk=some b):aR E.O tp (ai H id none) w b:=by
 have ho:=h.sat.out id r b c hb;refine⟨(h.sat.ok id r c).lt hb,ho.1,ho.2,λ⟨i,s,h1,h2⟩=>?_⟩;by_cases hi:i=id;grind [StW,Res.blk,ai]
 ·simp[ai,hi]at h1;exact hi (h.sat.dis _ _ _ _ b h1 c h2 hb)
theorem VY(h:StW E tp H w){id el n:Nat}{x:Value}{es:List D}(l:H id=some (.row x el n es)):R tp (aR E.O tp (ai H id none) w) w x (.list n es):=by
 obtain⟨xs,⟨F,s⟩,p,q⟩:=h.sat.ok id _ l;have hm:=(h.drop id).2;have t:=bh (es:=es) (λd u=>(p d u).2);rcases s with⟨rfl,h0⟩|⟨g,cap,cur,rfl,_,r,A,C,J,K⟩
 ·have:es=[]:=qFU h0;subst this;exact .nolist _ _ _
 ·have hcell:∀(k:Nat) (c:D),(bp es)[k]? =some c->∃y,xs[k]? =some y/\w.cell? ⟨g,0+k,none⟩=some y/\y.oneCell'=true/\R tp (aR E.O tp (ai H id none) w) w y c:=by
   intro k c hk;have b:k<xs.length:=by
    grind
   have j:xs[k]? =some xs[k]:=qFC b;refine⟨xs[k],j,?_,(q k _ c j hk).1,hm _ _ (q k _ c j hk).2⟩;rw[qGn,cell_of_row w g k cur el (0,0) r];grind
  refine .list g 0 cap n es (λk=>xs.getD k undef) (L9 h l rfl) A C (λ_=>⟨_,_,r⟩) p (λk c hk=>?_) (λk c hk=>?_) (λk c hk=>?_)
  all_goals grind
def qom(h:StW E tp H w){id b off:Nat}{cs:List D}(d:H id=some (.box b cs)):R tp (aR E.O tp (ai H id none) w) w (.pointer (some ⟨b,off,none⟩)) (.cptr cs off):=by
 obtain⟨xs,el,j,p,l⟩:=h.sat.ok id _ d;have hm:=(h.drop id).2;obtain⟨f,q,r,s⟩:=tq j p (λk y c h1 h2=>⟨(l k y c h1 h2).1,hm _ _ (l k y c h1 h2).2⟩);have:=R.cptr (tp:=tp) b 0 cs off f (L9 h d rfl) (λ_=>⟨_,_,j⟩) q r s;grind
theorem qcw:∀(cs:List D) (H:ab) (K:List D->ab->Prop) (xs:List Value),StW E tp H w->xs.length=cs.length->ba (R tp (aR E.O tp H w) w) xs cs->K4 cs H K->
 ∃cs' H',StW E tp H' w/\(∀x d,R tp (aR E.O tp H w) w x d->R tp (aR E.O tp H' w) w x d)/\xs.length=cs'.length/\ba (R tp (aR E.O tp H' w) w) xs cs'/\K cs' H':=by
 intro cs
 induction cs with
 |nil=>intro H K xs b hl hc j;exact⟨[],H,b,λ_ _ h=>h,hl,hc,j⟩
 | cons c cs u=>
   intro H K xs b hl hc j;cases xs with
   |nil=>grind
   | cons x xs=>
     simp at hl;have A:=hc 0 x c rfl rfl;have q:∀{H':ab},(∀x d,R tp (aR E.O tp H w) w x d->R tp (aR E.O tp H' w) w x d)->ba (R tp (aR E.O tp H' w) w) xs cs:=λm k y e h1 h2=>
      ⟨(hc (k+1) y e (by grind) (by grind)).1,m _ _ (hc (k+1) y e (by grind) (by grind)).2⟩
     have keep:(∃l c',StW E tp l w/\(∀x d,R tp (aR E.O tp H w) w x d->R tp (aR E.O tp l w) w x d)/\R tp (aR E.O tp l w) w x c'/\K4 cs l λcs' H'=>K (c'::cs') H'):=by
      have plain:(∀id y,c≠ .own id y)->K4 cs H (λcs' H'=>K (c::cs') H'):=by
       intro C;cases c<;>first|exact j|grind
      by_cases p:∃id y,c= .own id y
      ·obtain⟨id,y,rfl⟩:=p;simp only[K4]at j;split at j
       ·rename_i F el n es J;obtain⟨rfl,j⟩:=j;have s:=b.drop id;have r:x=F:=by cases A.2;rfl
        subst r;exact⟨ai H id none,_,s.1,s.2,VY b J,j⟩
       grind
      grind
     obtain⟨l,c',L,t,U,v1⟩:=keep;obtain⟨cs',H',M,N,W,c2,Q⟩:=u l _ xs L hl (q t) v1;refine⟨c'::cs',H',M,λy d h=>N _ _ (t _ _ h),by grind,λk y e h1 h2=>?_,Q⟩;cases k with
     |zero=>grind
     |succ k=>simp at h1 h2;exact c2 k y e h1 h2
theorem qok(h:StW E tp H w){id el n lo hi:Nat}{x q:Value}{es:List D}{I:Nat->Prop}(t:H id=some (.row x el n es))(hl:R tp (aR E.O tp (ai H id none) w) w x (.list n es))(k:R tp I w q (.sub id x n lo hi)):
 R tp (aR E.O tp (ai H id none) w) w q (.list n ((es.take hi).drop lo)):=by
 cases k with
 | subnil=>
   have:((es.take 0).drop 0)=[]:=by simp
   rw[this];exact .nolist _ _ _
 | sub _ b len cap _ _ _ p h1 h2 h3 hm hp=>
   cases hl with
   | nolist _ _ _=>
     have d:hi -lo=0:=by omega
     rw[d,qHS,qHE];exact .nolist _ _ _
   | list _ _ _ _ _ f hI hc j hz hn hcell c l=>
     by_cases r:lo<cap\/lo=0
     ·have:=PK hI hc j hz hn hcell c l h1 h2;grind
     ·have d:hi -lo=0:=by omega
      have s:(es.take hi).drop lo=[]:=by
       grind
      rw[d,s];exact .nolist _ _ _
theorem qux(h:StW E tp H w){id el n hi:Nat}{x q:Value}{es:List D}(t:H id=some (.row x el n es))(u:R tp (aR E.O tp H w) w q (.sub id x n 0 hi)):
 q.oneCell'=true/\StW E tp (ai H id (some (.row q el n (es.take hi)))) w/\∀y e,R tp (aR E.O tp H w) w y e->R tp (aR E.O tp (ai H id (some (.row q el n (es.take hi)))) w) w y e:=by
 obtain⟨xs,⟨U,A⟩,C,F⟩:=h.sat.ok id _ t;cases u with
 | subnil=>
   refine⟨rfl,h.own id _ (gG w none) (λb hb=>by grind) (λr b h1 h2=>by grind) (λm r h1=>?_)⟩;cases h1;rw[qHl];exact⟨[],qHa _ _ _ _,by simp,λk y c h=>by grind⟩
 | sub _ b len cap _ _ _ p h1 h2 h3 hm hp=>
   have:=hp (.inr rfl);subst this;rcases A with⟨h,_⟩|⟨g,s,cur,J,K,L,W,M,N,Y⟩
   grind
   ·cases J;have hl:(es.take hi).length=hi:=by grind
    have j:hi*n<=es.length*n:=qF2 n h2;refine⟨rfl,h.own id _ (gG w none) (λb hb=>by grind) (λr b' h1 h2=>by grind [Res.blk,Value.ownBlock]) (λm r h1=>?_)⟩;cases h1;refine⟨xs.take (hi*n),?_,λd Q=>C d (qF1 Q),λk y c l hc=>?_⟩
    ·rw[hl];refine⟨by grind, .inr ⟨b,cap,cur,by simp,qFY _,L,by omega,M,N,?_⟩⟩;grind
    ·rw[qFX]at l;split at l
     ·have:=F k y c l (nK hc);grind
     grind
theorem Tp{t n:Nat}{K:Sg->ab->Prop}(J:St E σ H a w)(l:Mb t n σ H K):∃A H',St E A H' a w/\K A H':=by
 obtain⟨L,M,tp,p,N⟩:=J;have mk:∀(H':ab) (d:D),StW E tp H' w->(∀x e,R tp (aR E.O tp H w) w x e->R tp (aR E.O tp H' w) w x e)->R tp (aR E.O tp H' w) w (a.tmps.getD t undef) d->St E (upd σ t d) H' a w:=by
  intro H' d h1 h2 h3;refine⟨L,M,tp,h1,λs=>?_⟩;grind [upd]
 have j:=N t;simp only[Mb]at l;split at l
 ·rename_i id x r;rw[r]at j;split at l
  ·rename_i Y el n' es C;obtain⟨rfl,hk⟩:=l;have hm:=p.drop id;have u:a.tmps.getD t undef=Y:=by
    generalize a.tmps.getD t undef=q at j;cases j;rfl
   refine⟨_,_,⟨L,M,tp,hm.1,λs=>?_⟩,hk⟩;have hs:=N s;unfold qgL;generalize a.tmps.getD s undef=q at hs ⊢;cases F:σ s with
   | own i y=>
     rw[F]at hs;simp only[M5];split
     ·rename_i Q;obtain⟨rfl,rfl⟩:=Q;cases hs;grind [VY]
     grind
   | _=>rw[F]at hs;exact hm.2 _ _ hs
  grind
 ·rename_i id b off r;rw[r]at j;split at l
  ·rename_i b' cs C;obtain⟨rfl,hk⟩:=l;have hm:=p.drop id;have u:a.tmps.getD t undef= .pointer (some ⟨b',off,none⟩):=by
    generalize a.tmps.getD t undef=q at j;cases j;rfl
   grind [qom]
  grind
 ·rename_i r;rw[r]at j;exact⟨_,_,mk _ _ p (λ_ _ h=>h) (by rw[j.inv_v];exact .nolist _ _ _),l⟩
 ·rename_i id x n' lo hi r;rw[r]at j;split at l
  ·rename_i Y el n'' es C;obtain⟨u,rfl,hk⟩:=l;subst u;split at hk
   ·obtain⟨rfl,hk⟩:=hk;obtain⟨r1,r2,r3⟩:=qux p C j;exact⟨_,_,mk _ _ r2 r3 (.own _ _ r1),hk _⟩
   ·have hm:=p.drop id;exact⟨_,_,mk _ _ hm.1 hm.2 (qok p C (VY p C) j),hk⟩
  grind
 ·rename_i cs r;rw[r]at j;obtain⟨xs,hx,hl,hc⟩:=j.inv_agg;obtain⟨cs',H',s1,m1,Z,c1,k1⟩:=qcw cs H _ xs p hl hc l;refine⟨_,_,mk _ _ s1 m1 ?_,k1⟩;rw[hx];refine .agg xs cs' Z (λx U=>?_) (λk x c h1 h2=>(c1 k x c h1 h2).2);obtain⟨k,hk⟩:=qF3.1 U;have W:k<cs'.length:=by rw[<-Z];exact(qFB.1 hk).1
  exact(c1 k x _ hk (qFC W)).1
 ·exact⟨_,_,⟨L,M,tp,p,N⟩,l⟩
def TU{ops:Array Oper}{j s:Nat}{t:Bool}(b:R tp I w (a.tmps.getD s undef) (.v (.bool t)))(c:(ops[j]?).bind (·.dst)=some s):yielded ops a.tmps j=some t:=by
 have h:=b.inv_v;unfold yielded;rw[c];simp only[qFW];rw[qGu]at h;cases d:a.tmps[s]? with
 |none=>grind [undef]
 |some q=>grind
def QU{ops:Array Oper}{j s:Nat}(b:R tp I w (a.tmps.getD s undef) .undef)(c:(ops[j]?).bind (·.dst)=some s):yielded ops a.tmps j=none:=by
 have h:a.tmps.getD s undef=undef:=by
  generalize a.tmps.getD s undef=q at b;cases b;rfl
 unfold yielded;rw[c];simp only[qFW];rw[qGu]at h;cases d:a.tmps[s]? with
 |none=>rfl
 |some q=>rw[d]at h;simp at h;subst h;rfl
def HS{s:Nat}{d:D}(h:σ s=d):upd σ s d=σ:=by
 grind [upd]
theorem D7{ops:Array Oper}{o:Oper}{g:Option (Nat×Bool)}{d no:Sg->Prop}(c:Jk ops o=some g)(l:∀t,R tp I w (a.tmps.getD t undef) (σ t))(k:tF g σ d no):
 (Region.wanted o (yielded ops a.tmps)=true/\d σ)\/(Region.wanted o (yielded ops a.tmps)=false/\no σ):=by
 unfold Jk at c;cases ho:o.guard with
 | none=>
   rw[ho]at c;simp at c;subst c;exact .inl ⟨by grind [Region.wanted],k⟩
 | some p=>
   obtain⟨j,b⟩:=p;rw[ho]at c;obtain⟨s,hs,rfl⟩:=bb c;simp only[tF]at k;have h:=l s;split at k
   ·rename_i t q;rw[q]at h;have u:=TU h hs;cases hb:(t==b)with
    | true=>
      have:t=b:=by grind
      subst this;refine .inl ⟨by grind [Region.wanted],?_⟩;have:=k.1 rfl;grind [HS]
    | false=>
      have r:t=(!b):=by cases t<;>cases b<;>simp_all
      grind [Region.wanted,HS]
   grind [QU,Region.wanted];grind
def St.skip(c:St E σ H a w)(dst:Option Nat)(b:∀t,dst=some t->t<E.N):St E (gx σ dst .undef) H (a.put dst undef) w:=by
 obtain⟨d,j,tp,k,l⟩:=c;exact St.put d j l ⟨k,λ_ _ h=>h⟩ dst b .undef
def qr8{N:Nat}{o:Oper}(h:o.dst.all (· < N)=true):∀t,o.dst=some t->t<N:=by
 grind
theorem Sn{ops:Array Oper}{Q:Exit->Act->World->Prop}{K:Sg->ab->Prop}{z:List PanicEntry->Prop}(p:∀c a w',a.defers=E.ds->qcX E z c w'->Q (.panic c) a w')(W:∀σ H a w,St E σ H a w->K σ H->Q .normal a w):
 ∀(cis:List CI) (A:∀x∈cis,dV E.dq P z S x) (l:List Oper),l.mapM (ft P im E.N ops)=some (cis.filter CI.real)->∀(σ:Sg) (H:ab) (a:Act) (w:World),St E σ H a w->HQ S cis σ H K->wpList P ops Q l a w:=by
 intro cis
 induction cis with
 | nil=>
   intro A l hl σ H a w j C;cases l with
   |nil=>exact W σ H a w j C
   | cons o l=>
     grind [qFA]
 | cons x cis F=>
   intro A l hl σ H a w j C;have F:=F λx k=>A x (by grind)
   have J:=A _ (qH8 ..);cases x with
   | frz t n=>
     grind [HQ,Tp,CI.real]
   | op dst g c=>
     cases l with
     |nil=>grind [CI.real]
     | cons o l=>
       rw[qGq]at hl;simp only[qFD,qFA,qHH,CI.real,if_true]at hl;obtain⟨x,k,y,M,h⟩:=hl;cases h;unfold ft at k;simp only[qFD,qFA]at k;obtain⟨c',hc,g',Y,k⟩:=k;split at k
       ·rename_i b;cases k;have b:=qr8 b;have q:=j;obtain⟨O,Z,tp,hw,U⟩:=j;simp only[HQ]at C;unfold wpList;rcases D7 Y U C with⟨d,s⟩|⟨d,L⟩
        ·rw[if_pos d];exact .inl (Ly J hc hw O Z U b s (λc w'=>p c a w' O) (λr H' x w' hk u=>F l M _ _ _ _ u hk))
        ·rw[if_neg (by grind)];exact F l M _ _ _ _ (q.skip o.dst b) L
       grind
end
end
section
def COp.ops:COp->List Operand
 | .mv x| .box _ _ x| .tbx _ x| .load _ _ x| .nilck x| .not x| .neg x| .conv _ x| .faddr _ x| .fld _ _ _ x| .ext x _| .len x| .slen x=>[x]
 | .pick c x y=>[c,x,y]
 | .alloc _ _| .nslice _ _| .bad=>[]
 | .build _ a=>a.map (·.2.2)
 | .bslice _ _ a=>a
 | .mslice _ _ a=>a
 | .store _ _ x y| .arith _ x y| .cmp _ x y| .eql _ _ _ x y| .scat x y| .iaddr _ x y| .sidx x y| .append _ _ _ _ x y=>[x,y]
 | .clo _ xs| .mm _ xs| .call _ xs| .callb _ _ xs=>xs
 | .appmk _ _ _ _ _ x y| .copy _ x y=>[x,y]
 | .clear _ _ _ x| .cap x| .srange x| .snext x| .sbytes x| .srunes x| .bstr x| .rstr x| .mkif _ x=>[x]
 | .mkslice _ _ _ _ _ l c=>[l,c]
 | .slice _ x lo hi| .sslice x lo hi=>x::lo.toList++hi.toList
 | .callv f xs=>f::xs
 | .m _ xs=>xs
def qwy(A:PT):Prop:=∃(p:List D->Prop) (o:Nat->List D->D->Res->Prop),∀(t:Nat) (ds:List D) (H:ab) (K:D->ab->Prop),A t ds H K↔ (p ds/\∀d u,o t ds d u->K d (ai H t (some u)))
def qfU(dst:Option Nat)(s:Spc)(args:List D)(H:ab)(K:D->ab->Prop):Prop:=match s with
 | .pure a=>a.pre args/\∀r,a.post args r->K r H
 | .gen A _=>match dst with
   |some t=>qwy A/\A t args H K
   |none=>False
 | .none=>False
def qaW(i:Nat):Nat:=if 990<=i/\i< 1000 then 0 else i
def L8(wid:Option Nat)(i:Nat):Prop:=match wid with|some t=>qaW i=qaW t|none=>False
instance (wid:Option Nat) (i:Nat):Decidable (L8 wid i):=by unfold L8;split<;>infer_instance
def uK(H:ab)(wid:Option Nat):ab:=λi=>if L8 wid i then H i else none
def jX(H:ab)(wid:Option Nat)(u:List (Nat×Res)):ab:=λi=>if L8 wid i then(match u.lookup i with|some r=>some r|none=>H i)else H i
def qml(r:Nat)(A:PT)(args:List D):Prop:=∃(p:ab->Prop) (o:ab->D->List (Nat×Res)->Prop),∀(t:Nat) (H:ab) (K:D->ab->Prop),A t args H K↔ (p (uK H (some r))/\∀d u,o (uK H (some r)) d u->K d (jX H (some r) u))
def O1(r:Nat)(dst:Option Nat)(s:Spc)(args:List D)(H:ab)(K:D->ab->Prop):Prop:=match s with
 | .gen A _=>qml r A args/\A (dst.getD 0) args H K
 | _=>False
def ax(S:Nat->Spc)(c:COp)(dst:Option Nat)(a:Sg)(Hr H:ab)(K:D->ab->Prop):Prop:=
 match c with
 | .call f args=>qfU dst (S f) (args.map (ev a)) H K
 | .callb r f args=>O1 r dst (S f) (args.map (ev a)) H K
 | .callv f args=>match ev a f with
   | .clo g caps=>match S g with
     | .pure p=>p.pre (args.map (ev a) ++caps)/\∀r,p.post (args.map (ev a) ++caps) r->K r H
     | _=>False
   | _=>False
 | .alloc el z=>bK (.alloc el z) dst a H K
 | .box el false x=>bK (.box el false x) dst a H K
 | .tbx el x=>bK (.tbx el x) dst a H K
 | .nslice el n=>bK (.nslice el n) dst a H K
 | .mslice el n q=>bK (.mslice el n q) dst a H K
 | .mkslice el n b agg z l c=>bK (.mkslice el n b agg z l c) dst a H K
 | .append rt el n b x y=>yM n (ev a y) Hr λes2=>match rt with
   | none=>match dst,ev a x with
     |some t, .v (.slice none 0 0)=>es2.length*b<=140737488355328/\es2.length<=140737488355328/\∀v,K (.own t v) (ai H t (some (.row v el n es2)))
     | _,_=>False
   | some r=>match ev a x with
     | .own id x=>id=r/\match H r with
       |some (.row h k j es)=>h=x/\k=el/\j=n/\(es.length+es2.length) *b<=140737488355328/\es.length+es2.length<=140737488355328/\∀v,K (.own r v) (ai H r (some (.row v el n (es++es2))))
       | _=>False
     | _=>False
 | .store rt sz x y=>(ev a y).kn=true/\(ev a y).cells.length=sz/\match rt with
   |none=>False
   | some r=>match ev a x with
     | .bptr id b off=>id=r/\match H r with
       |some (.box b' cells)=>b'=b/\off+sz<=cells.length/\K .undef (ai H r (some (.box b' (setAt cells off (ev a y).cells))))
       | _=>False
     | .eptr id x n i off=>id=r/\match H r with
       | some (.row h el j es)=>h=x/\j=n/\0<n/\off+sz<=n/\i<es.length/\∀d,es[i]? =some d->
          K .undef (ai H r (some (.row h el j (es.set i (if off=0/\sz=n then ev a y else .agg (setAt d.cells off (ev a y).cells))))))
       | _=>False
     | _=>False
 | .clear .. | .copy .. | .srange .. | .snext .. =>False
 | .appmk el n b agg z x c=>bK (.appmk el n b agg z x c) dst a H K
 | .m .mk xs=>bK (.m .mk xs) dst a H K
 |c=>am c a Hr λd=>K d H
def COp.wid(c:COp)(dst:Option Nat):Option Nat:=
 match c with
 | .append (some r) _ _ _ _ _=>some r
 | .store (some r) _ _ _=>some r
 | .callb r _ _=>some r
 | _=>dst
def CI.wid:CI->Option Nat
 | .op d _ c=>c.wid d
 | .frz _ _=>none
def bM:List CI->ab->ab
 | [],H=>H
 | .frz _ _::_,H=>H
 | .op d g c::l,H=>λi=>if L8 (CI.op d g c).wid i then none else bM l H i
def pu(S:Nat->Spc):List CI->Sg->ab->ab->(Sg->ab->Prop)->Prop
 | [],a,_,H,K=>K a H
 | .frz _ _::r,a,Hr,H,K=>pu S r a (bM r Hr) H K
 | .op dst g c::r,a,Hr,H,K=>tF g a (λa=>ax S c dst a Hr H λd H'=>pu S r (gx a dst d) Hr H' K) (λa=>pu S r (gx a dst .undef) Hr H K)
def QT(S:Nat->Spc)(x:CI)(a:Sg)(Hr H:ab)(K:D->ab->Prop):Prop:=
 match x with
 | .frz _ _=>False
 | .op dst g c=>match g with
   |none=>ax S c dst a Hr H K
   | some (s,b)=>match a s with
     | .v (.bool t)=>(t=b->ax S c dst a Hr H K)/\(t=(!b)->K .undef H)
     | .undef=>K .undef H
     | _=>False
def CI.dst:CI->Option Nat
 | .op d _ _=>d
 | .frz _ _=>none
def qhx(S:Nat->Spc):List (CI×ab)->Sg->ab->(Sg->ab->Prop)->Prop
 | [],a,H,K=>K a H
 |x::r,a,H,K=>QT S x.1 a x.2 H λd H'=>qhx S r (gx a x.1.dst d) H' K
def WU(F:(D->Prop)->Prop):Prop:=∃(pre:Prop) (out:D->Prop),∀K,F K↔ (pre/\∀d,out d->K d)
def bv(d:D):WU λK=>K d:=⟨True,λe=>e=d,λK=>⟨λh=>⟨trivial,λe he=>he ▸h⟩,λh=>h.2 d rfl⟩⟩
def gr:WU λ_=>False:=⟨False,λ_=>True,λK=>⟨λh=>h.elim,λh=>h.1⟩⟩
def aJ{A:Prop}{F:(D->Prop)->Prop}(h:WU F):WU λK=>A/\F K:=by
 obtain⟨pre,out,h⟩:=h;exact⟨A/\pre,out,λK=>by grind⟩
def kQ{A:Prop}{F:(D->Prop)->Prop}(h:WU F):WU λK=>A->F K:=by
 obtain⟨pre,out,h⟩:=h;refine⟨A->pre,λd=>A/\out d,λK=>?_⟩;grind
def vI{c:Type}{F:c->(D->Prop)->Prop}(h:∀x,WU (F x)):WU λK=>∀x,F x K:=by
 have j:∀x,∃(p:Prop× (D->Prop)),∀K,F x K↔ (p.1/\∀d,p.2 d->K d):=λx=>by
  obtain⟨pre,out,a⟩:=h x;exact⟨(pre,out),a⟩
 obtain⟨p,hp⟩:=qHY j;refine⟨∀x,(p x).1,λd=>∃x,(p x).2 d,λK=>?_⟩;constructor
 ·intro b;exact⟨λx=>((hp x K).1 (b x)).1,λd ⟨x,a⟩=>((hp x K).1 (b x)).2 d a⟩
 grind
def Zp{F G:(D->Prop)->Prop}(h1:WU F)(h2:WU G):WU λK=>F K/\G K:=by
 obtain⟨a,b,h1⟩:=h1;obtain⟨c,h,h2⟩:=h2;refine⟨a/\c,λd=>b d\/h d,λK=>?_⟩;grind
def Te(a:Sg):∀(b:List (Nat×Nat×Operand)) (cs:List D),WU λK=>mJ a b cs λcs=>K (.agg cs)
 | [],cs=>bv _
 |(off,sz,x)::r,cs=>aJ (aJ (Te a r _))
def qgl(op:BinOp)(k:IntKind)(a b:Int):WU λK=>jE op k a b K:=by
 cases op<;>simp only[jE] <;>first
  |exact gr
  |exact bv _
  |exact aJ (bv _)
  |simp[aJ,bv]
def VJ(lo hi:Option (Option (IntKind×Int)))(len:Nat)(f:Nat->Nat->D):WU λK=>xq lo hi len λl h=>K (f l h):=by
 unfold xq;split<;>first
  |exact bv _
  |exact aJ (aJ (bv _))
  |exact aJ (aJ (aJ (bv _)))
  |exact gr
def qd6{d:D}{H:ab}{F:List D->(D->Prop)->Prop}(h:∀es,WU (F es)):WU λK=>D3 d H λes=>F es K:=by
 unfold D3;split;grind;grind
 ·split;simp_all [aJ]
  ·exact gr
 ·exact gr
def qd5(o:MOp)(ds:List D)(H:ab):WU λK=>yr o ds H K:=by
 unfold yr;split
 ·exact qd6 λes=>aJ (aJ (Zp (vI λa=>vI λv=>kQ (kQ (bv _))) (kQ (bv _))))
 simp[qd6,bv]
 ·split;simp[aJ,bv]
  ·unfold FV;split
   ·split
    ·exact aJ (aJ (aJ (aJ (aJ (vI λ_=>vI λ_=>kQ (kQ (bv _)))))))
    simp[gr]
   simp[gr]
  ·exact aJ gr
 ·refine aJ (aJ ?_);unfold P1;split<;>first|exact bv _|exact gr
 ·exact gr
theorem Zo(c:COp)(a:Sg)(Hr:ab):WU λK=>am c a Hr K:=by
 unfold am;split<;>first
  |exact bv _
  |exact gr
  |exact Te a _ _
  |exact aJ (bv _)
  |skip
 all_goals
  (repeat' split)<;>first
    |exact bv _
    |exact gr
    |exact Zp (kQ (bv _)) (kQ (bv _))
    |exact aJ (bv _)
    |exact aJ (aJ (bv _))
    |exact aJ (aJ (aJ (bv _)))
    |exact aJ (aJ (aJ (aJ (bv _))))
    |exact aJ (aJ (aJ (aJ (vI λ_=>kQ (bv _)))))
    |exact aJ (aJ (aJ (vI λ_=>kQ (bv _))))
    |exact aJ (aJ (vI λ_=>kQ (bv _)))
    |exact aJ (qgl _ _ _ _)
    |exact kQ (bv _)
    |exact aJ (kQ (bv _))
    |exact aJ gr
    |exact aJ (aJ (VJ _ _ _ _))
    |exact aJ (VJ _ _ _ _)
    |exact VJ _ _ _ λ_ _=>_
    |grind [qd5]
    |skip
def yG(H:ab)(dst:Option Nat)(u:Option Res):ab:=
 match dst,u with
 |some t,some r=>ai H t (some r)
 | _,_=>H
def LinU0(dst:Option Nat)(F:ab->(D->ab->Prop)->Prop):Prop:=
 ∃(pre:Prop) (out:D->Option Res->Prop),∀H K,F H K↔ (pre/\∀d u,out d u->K d (yG H dst u))
def MJ(H:ab):Option Nat->Option Res
 |some t=>H t
 |none=>none
def LinU1(wid:Option Nat)(F:ab->(D->ab->Prop)->Prop):Prop:=
 ∀a,∃(pre:Prop) (out:D->Option Res->Prop),∀H,MJ H wid=a->∀K,F H K↔ (pre/\∀d u,out d u->K d (yG H wid u))
def LinU0.lin1{dst:Option Nat}{F:ab->(D->ab->Prop)->Prop}(h:LinU0 dst F):LinU1 dst F:=λ_=>by
 obtain⟨pre,out,h⟩:=h;exact⟨pre,out,λH _ K=>h H K⟩
def QE(H:ab)(dst:Option Nat):yG H dst none=H:=by cases dst<;>rfl
def VK{dst:Option Nat}{G:(D->Prop)->Prop}(h:WU G):LinU0 dst λH K=>G λd=>K d H:=by
 obtain⟨pre,out,h⟩:=h;refine⟨pre,λd u=>out d/\u=none,λH K=>?_⟩;dsimp only;rw[h];constructor;grind [QE]
 ·rintro⟨a,b⟩;exact⟨a,λd h1=>by have:=b d none ⟨h1,rfl⟩;grind [QE]⟩
def aF(dst:Option Nat):LinU0 dst λ_ _=>False:=⟨False,λ_ _=>True,λ_ _=>⟨λh=>h.elim,λh=>h.1⟩⟩
def qF{t:Nat}{c:Type}{A:Prop}(f:c->D)(r:c->Res):LinU0 (some t) λH K=>A/\∀b,K (f b) (ai H t (some (r b))):=by
 refine⟨A,λd u=>∃b,d=f b/\u=some (r b),λH K=>?_⟩;constructor
 ·rintro⟨a,h⟩;exact⟨a,λd u ⟨b,h1,h2⟩=>by subst h1;subst h2;exact h b⟩
 ·rintro⟨a,h⟩;exact⟨a,λb=>h _ _ ⟨b,rfl,rfl⟩⟩
def LinU0.congr{dst:Option Nat}{F G:ab->(D->ab->Prop)->Prop}(h:LinU0 dst F)(a:∀H K,G H K↔F H K):LinU0 dst G:=by
 obtain⟨pre,out,h⟩:=h;exact⟨pre,out,λH K=>(a H K).trans (h H K)⟩
def lB{S:Nat->Spc}{c:COp}{dst:Option Nat}{a:Sg}{Hr H:ab}{K:D->ab->Prop}(h:c.isRead=true):ax S c dst a Hr H K↔am c a Hr λd=>K d H:=by
 cases c<;>first|exact qGZ|(simp[COp.isRead]at h;done)|skip
 ·rename_i el im x;cases im;grind [COp.isRead];rfl
 ·rename_i b xs;cases b<;>first|(simp[COp.isRead,MOp.isRead]at h;done)|rfl
def qjQ{dst:Option Nat}{n:Nat}{d:D}{Hr:ab}{F:List D->ab->(D->ab->Prop)->Prop}(h:∀es,LinU0 dst (F es)):LinU0 dst λH K=>pQ n d Hr λes=>F es H K:=by
 have a:∀{A:Prop} {G:ab->(D->ab->Prop)->Prop},LinU0 dst G->LinU0 dst λH K=>A/\G H K:=λ{A G} h=>by
  obtain⟨pre,out,h⟩:=h;exact⟨A/\pre,out,λH K=>by grind⟩
 unfold pQ;split;simp_all
 ·split;simp_all;grind [aF]
 grind
 ·split
  ·exact a (a (a (h _)))
  grind [aF]
 grind [aF]
def qgm{dst:Option Nat}{n:Nat}{d:D}{Hr:ab}{F:List D->ab->(D->ab->Prop)->Prop}(h:∀es,LinU0 dst (F es)):LinU0 dst λH K=>yM n d Hr λes=>F es H K:=by
 unfold yM;split
 ·rename_i s;obtain⟨pre,out,h⟩:=h (Kl s);exact⟨n=1/\pre,out,λH K=>by grind⟩
 ·exact qjQ h
theorem qjR{wid:Option Nat}{n:Nat}{d:D}{Hr:ab}{b:Option Res}{F:List D->ab->(D->ab->Prop)->Prop}
 (h:∀es,∃(pre:Prop) (out:D->Option Res->Prop),∀H,MJ H wid=b->∀K,F es H K↔ (pre/\∀d u,out d u->K d (yG H wid u))):
 ∃(pre:Prop) (out:D->Option Res->Prop),∀H,MJ H wid=b->∀K,(pQ n d Hr λes=>F es H K) ↔ (pre/\∀d u,out d u->K d (yG H wid u)):=by
 have a:∀{A:Prop} {G:ab->(D->ab->Prop)->Prop},(∃(pre:Prop) (out:D->Option Res->Prop),∀H,MJ H wid=b->∀K,G H K↔ (pre/\∀d u,out d u->K d (yG H wid u)))->
  ∃(pre:Prop) (out:D->Option Res->Prop),∀H,MJ H wid=b->∀K,(A/\G H K) ↔ (pre/\∀d u,out d u->K d (yG H wid u)):=λ{A G} h=>by
  obtain⟨pre,out,h⟩:=h;exact⟨A/\pre,out,λH c K=>by grind⟩
 have no:∃(pre:Prop) (out:D->Option Res->Prop),∀H,MJ H wid=b->∀K:D->ab->Prop,False↔ (pre/\∀d u,out d u->K d (yG H wid u)):=⟨False,λ_ _=>True,λ_ _ _=>⟨λh=>h.elim,λh=>h.1⟩⟩
 unfold pQ;split
 ·exact a (h _)
 ·split
  ·exact a (a (h _))
  omega
 simp_all
 ·split
  ·exact a (a (a (h _)))
  omega
 omega
def qgp{wid:Option Nat}{n:Nat}{d:D}{Hr:ab}{a:Option Res}{F:List D->ab->(D->ab->Prop)->Prop}
 (h:∀es,∃(pre:Prop) (out:D->Option Res->Prop),∀H,MJ H wid=a->∀K,F es H K↔ (pre/\∀d u,out d u->K d (yG H wid u))):
 ∃(pre:Prop) (out:D->Option Res->Prop),∀H,MJ H wid=a->∀K,(yM n d Hr λes=>F es H K) ↔ (pre/\∀d u,out d u->K d (yG H wid u)):=by
 unfold yM;split
 ·rename_i s;obtain⟨pre,out,h⟩:=h (Kl s);exact⟨n=1/\pre,out,λH b K=>by grind⟩
 ·exact qjR h
theorem qgo(S:Nat->Spc)(c:COp)(dst:Option Nat)(j:Sg)(Hr:ab)(E:∀r el n b x y,c≠ .append (some r) el n b x y)(F:∀r sz x y,c≠ .store (some r) sz x y)(I:∀r f args,c≠ .callb r f args):LinU0 dst λH K=>ax S c dst j Hr H K:=by
 by_cases q:c.isRead=true;simp_all [VK,Zo,lB];cases c
 case call f args=>
  simp only[ax];cases S f with
  |pure s=>exact VK (G:=λK=>s.pre (args.map (ev j))/\∀r,s.post (args.map (ev j)) r->K r) (aJ (vI λr=>kQ (bv r)))
  |none=>exact aF dst
  | gen A L=>
    cases dst with
    |none=>exact aF none
    | some t=>
      by_cases C:qwy A
      ·obtain⟨p,o,h⟩:=id C;refine⟨p (args.map (ev j)),λd u=>∃w,u=some w/\o t (args.map (ev j)) d w,λH K=>?_⟩;simp only[qfU];rw[h t];constructor
       ·rintro⟨_,a,b⟩;exact⟨a,λd u ⟨w,e,h1⟩=>by subst e;exact b d w h1⟩
       ·rintro⟨a,b⟩;exact⟨C,a,λd u h1=>b d (some u) ⟨u,rfl,h1⟩⟩
      ·exact(aF (some t)).congr λH K=>⟨λh=>C h.1,λh=>h.elim⟩
 case callb r f args=>grind
 case callv f args=>
  simp only[ax];split
  ·rename_i g caps _;split
   ·rename_i s _;exact VK (G:=λK=>s.pre (args.map (ev j) ++caps)/\∀r,s.post (args.map (ev j) ++caps) r->K r) (aJ (vI λr=>kQ (bv r)))
   grind [aF]
  grind [aF]
 case alloc el z=>
  cases dst with
  |none=>simp[ax,bK,aF]
  |some t=>exact(qF (t:=t) (A:=True) (λb=>D.bptr t b 0) (λb=>Res.box b (z.map yy))).congr (λH K=>by simp[ax,bK])
 case box el im x=>
  cases im with
  |true=>exact absurd rfl q
  | false=>
    cases dst with
    |none=>simp[ax,bK,aF]
    |some t=>simp[qF,ax,bK]
 case tbx el x=>
  cases dst with
  |none=>simp[ax,bK,aF]
  |some t=>simp[qF,ax,bK]
 case nslice el n=>
  cases dst with
  |none=>simp[ax,bK,aF]
  |some t=>exact(qF (t:=t) (A:=True) (λx=>D.own t x) (λx=>Res.row x el n [])).congr (λH K=>by simp[ax,bK])
 case mslice el n M=>
  cases dst with
  |none=>simp[ax,bK,aF]
  |some t=>simp[qF,ax,bK]
 case mkslice el n b agg z l cc=>
  cases dst with
  |none=>simp[ax,bK,aF]
  | some t=>
    simp only[ax,bK];split
    ·rename_i N O;rename_i Q l' U c';exact(qF (t:=t) (A:=0<=l'/\l'<=c'/\b*c'<=140737488355328/\c'<=140737488355328) (λx=>D.own t x) (λx=>Res.row x el n (List.replicate l'.toNat (if agg then .agg (z.map yy)else yy (z.headD (.bool false)))))).congr (λH K=>by grind)
    grind [aF]
 case store rt sz x y=>
  cases rt with
  |some r=>grind
  |none=>exact(aF dst).congr λH K=>⟨λh=>h.2.2.elim,λh=>h.elim⟩
 case srange x=>exact aF dst
 case snext x=>exact aF dst
 case append rt el n b x y=>
  cases rt with
  |some r=>grind
  | none=>
    simp only[ax];refine qgm λes2=>?_
    split
    ·rename_i t _;exact(qF (t:=t) (A:=es2.length*b<=140737488355328/\es2.length<=140737488355328) (λv=>D.own t v) (λv=>Res.row v el n es2)).congr (λH K=>by grind)
    grind [aF]
 case clear n agg z x=>exact aF dst
 case copy n x y=>exact aF dst
 case appmk el n b agg z x c=>
  simp only[ax,bK];split
  ·cases dst with
   |none=>exact aF _
   | some t=>
     cases hc:yF (ev j c)with
     |none=>exact aF _
     | some p=>
       obtain⟨k,c'⟩:=p;exact(qF (t:=t) (A:=0<=c'/\c'*b<=140737488355328/\c'<=140737488355328) (λx=>D.own t x) (λx=>Res.row x el n (List.replicate c'.toNat (TT agg z)))).congr (λH K=>by grind)
  grind [aF]
 case m J xs=>
  cases J
  case mk=>
   cases xs with
   | nil=>
     cases dst with
     |none=>exact aF _
     |some t=>exact(qF (t:=t) (A:=True) (λx=>D.own t x) (λx=>Res.mrow x [])).congr (λH K=>by simp[ax,bK,ip])
   |cons x xs=>exact(aF dst).congr λH K=>qGZ
  case upd=>exact(aF dst).congr λH K=>qGZ
  case rng=>exact(aF dst).congr λH K=>qGZ
  case next=>exact(aF dst).congr λH K=>qGZ
  case del=>exact(aF dst).congr λH K=>qGZ
  all_goals exact absurd rfl q
 all_goals exact absurd rfl q
def AR(H:ab)(wid:Option Nat):jX H wid []=H:=by
 grind [jX]
def qlJ(H:ab)(t:Nat)(r:Res):jX H (some t) [(t,r)]=ai H t (some r):=by
 funext i;simp only[jX,ai];by_cases h:i=t
 ·subst h;rw[if_pos (show L8 (some i) i from rfl),if_pos rfl];simp
 grind
def qpb(wid:Option Nat)(F:ab->(D->ab->Prop)->Prop):Prop:=
 ∀a,∃(pre:Prop) (out:D->List (Nat×Res)->Prop),∀H,uK H wid=a->∀K,F H K↔ (pre/\∀d u,out d u->K d (jX H wid u))
def qDT(a:ab):Option Nat->Option Res
 |some t=>a t
 |none=>none
def qDC(wid:Option Nat)(u:Option Res):List (Nat×Res):=match wid,u with
 |some t,some r=>[(t,r)]
 | _,_=>[]
def qeN(H:ab)(wid:Option Nat)(u:Option Res):jX H wid (qDC wid u)=yG H wid u:=by
 cases wid with
 |none=>rfl
 | some t=>cases u with
   |none=>exact AR H _
   |some r=>exact qlJ H t r
def LinU1.lin{wid:Option Nat}{F:ab->(D->ab->Prop)->Prop}(h:LinU1 wid F):qpb wid F:=λa=>by
 obtain⟨pre,out,h⟩:=h (qDT a wid);refine⟨pre,λd b=>∃u,out d u/\b=qDC wid u,λH c K=>?_⟩;have h1:MJ H wid=qDT a wid:=by
  cases wid with
  |none=>rfl
  | some t=>
    show H t=a t;rw[<-c];simp only[uK];rw[if_pos (show L8 (some t) t from rfl)]
 rw[h H h1 K];refine and_congr_right λ_=>⟨λhk d b ⟨u,ho,e⟩=>?_,λhk d u ho=>?_⟩
 grind [LinU1,qeN]
 ·have:=hk d _ ⟨u,ho,rfl⟩;grind [LinU1,qeN]
def LinU0.lin{dst:Option Nat}{F:ab->(D->ab->Prop)->Prop}(h:LinU0 dst F):qpb dst F:=h.lin1.lin
theorem qgn(S:Nat->Spc)(c:COp)(dst:Option Nat)(w:Sg)(Hr:ab)(hb:¬ ∃r f args,c= .callb r f args):LinU1 (c.wid dst) λH K=>ax S c dst w Hr H K:=by
 by_cases h:∃r el n b x y,c= .append (some r) el n b x y
 ·obtain⟨r,el,n,b,x,y,rfl⟩:=h;intro C;simp only[ax,COp.wid];refine qgp λes2=>?_
  cases ev w x with
  | own id v=>
    cases C with
    | none=>
      refine⟨False,λ_ _=>True,λH a K=>?_⟩;have a:H r=none:=a;grind
    | some q=>
      cases q with
      | box b' cs=>
        refine⟨False,λ_ _=>True,λH a K=>?_⟩;have a:H r=some (.box b' cs):=a;grind
      | iter b' p s=>
        refine⟨False,λ_ _=>True,λH a K=>?_⟩;have a:H r=some (.iter b' p s):=a;grind
      | tbox b' p s=>
        refine⟨False,λ_ _=>True,λH a K=>?_⟩;have a:H r=some (.tbox b' p s):=a;grind
      | mrow k es'=>
        refine⟨False,λ_ _=>True,λH a K=>?_⟩;have a:H r=some (.mrow k es'):=a;grind
      | miter b' c' l'=>
        refine⟨False,λ_ _=>True,λH a K=>?_⟩;have a:H r=some (.miter b' c' l'):=a;grind
      | raw E=>
        refine⟨False,λ_ _=>True,λH a K=>?_⟩;have a:H r=some (.raw E):=a;grind
      | row k j t es=>
        refine⟨id=r/\k=v/\j=el/\t=n/\(es.length+es2.length) *b<=140737488355328/\es.length+es2.length<=140737488355328,λd u=>∃v,d= .own r v/\u=some (.row v el n (es++es2)),λH a K=>?_⟩;have a:H r=some (.row k j t es):=a;rw[a];constructor
        ·rintro⟨h1,h2,h3,h4,h5,h6,J⟩;exact⟨⟨h1,h2,h3,h4,h5,h6⟩,λd u ⟨v,F,I⟩=>by subst F;subst I;exact J v⟩
        ·rintro⟨⟨h1,h2,h3,h4,h5,h6⟩,J⟩;exact⟨h1,h2,h3,h4,h5,h6,λv=>J _ _ ⟨v,rfl,rfl⟩⟩
  | _=>exact⟨False,λ_ _=>True,λH a K=>⟨λh=>h.elim,λh=>h.1.elim⟩⟩
 ·by_cases hs:∃r sz x y,c= .store (some r) sz x y
  ·obtain⟨r,sz,x,y,rfl⟩:=hs;intro C;simp only[ax,COp.wid];have no:∃(pre:Prop) (out:D->Option Res->Prop),∀H,MJ H (some r)=C->∀K:D->ab->Prop,False↔ (pre/\∀d u,out d u->K d (yG H (some r) u)):=⟨False,λ_ _=>True,λ_ _ _=>⟨λh=>h.elim,λh=>h.1⟩⟩
   have l:∀{A:Prop} {G:ab->(D->ab->Prop)->Prop},(∃(pre:Prop) (out:D->Option Res->Prop),∀H,MJ H (some r)=C->∀K,G H K↔ (pre/\∀d u,out d u->K d (yG H (some r) u)))->
    ∃(pre:Prop) (out:D->Option Res->Prop),∀H,MJ H (some r)=C->∀K,(A/\G H K) ↔ (pre/\∀d u,out d u->K d (yG H (some r) u)):=λ{A G} h=>by
    obtain⟨pre,out,h⟩:=h;exact⟨A/\pre,out,λH a K=>by rw[h H a K,and_assoc]⟩
   refine l (l ?_);cases ev w x with
   | bptr id b off=>
     refine l ?_;cases C with
     | none=>
       refine⟨False,λ_ _=>True,λH a K=>?_⟩;have a:H r=none:=a;rw[a];exact⟨λh=>h.elim,λh=>h.1.elim⟩
     | some q=>
       cases q with
       | box b' cs=>
         refine⟨b'=b/\off+sz<=cs.length,λd u=>d= .undef/\u=some (.box b' (setAt cs off (ev w y).cells)),λH a K=>?_⟩;have a:H r=some (.box b' cs):=a;rw[a];constructor
         ·rintro⟨h1,h2,h3⟩;exact⟨⟨h1,h2⟩,λd u ⟨F,I⟩=>by subst F;subst I;exact h3⟩
         ·rintro⟨⟨h1,h2⟩,h3⟩;exact⟨h1,h2,h3 _ _ ⟨rfl,rfl⟩⟩
       | row k j t es=>
         refine⟨False,λ_ _=>True,λH a K=>?_⟩;have a:H r=some (.row k j t es):=a;rw[a];exact⟨λh=>h.elim,λh=>h.1.elim⟩
       | iter b' p s=>
         refine⟨False,λ_ _=>True,λH a K=>?_⟩;have a:H r=some (.iter b' p s):=a;rw[a];exact⟨λh=>h.elim,λh=>h.1.elim⟩
       | tbox b' p s=>
         refine⟨False,λ_ _=>True,λH a K=>?_⟩;have a:H r=some (.tbox b' p s):=a;rw[a];exact⟨λh=>h.elim,λh=>h.1.elim⟩
       | mrow k es'=>
         refine⟨False,λ_ _=>True,λH a K=>?_⟩;have a:H r=some (.mrow k es'):=a;rw[a];exact⟨λh=>h.elim,λh=>h.1.elim⟩
       | miter b' c' l'=>
         refine⟨False,λ_ _=>True,λH a K=>?_⟩;have a:H r=some (.miter b' c' l'):=a;rw[a];exact⟨λh=>h.elim,λh=>h.1.elim⟩
       | raw E=>
         refine⟨False,λ_ _=>True,λH a K=>?_⟩;have a:H r=some (.raw E):=a;rw[a];exact⟨λh=>h.elim,λh=>h.1.elim⟩
   | eptr id v n i off=>
     refine l ?_;cases C with
     | none=>
       refine⟨False,λ_ _=>True,λH a K=>?_⟩;have a:H r=none:=a;rw[a];exact⟨λh=>h.elim,λh=>h.1.elim⟩
     | some q=>
       cases q with
       | row k j t es=>
         refine⟨k=v/\t=n/\0<n/\off+sz<=n/\i<es.length,λd u=>d= .undef/\∃e,es[i]? =some e/\u=some (.row k j t (es.set i (if off=0/\sz=n then ev w y else .agg (setAt e.cells off (ev w y).cells)))),λH a K=>?_⟩;have a:H r=some (.row k j t es):=a;rw[a];constructor
         ·rintro⟨h1,h2,h3,h4,h5,h6⟩;exact⟨⟨h1,h2,h3,h4,h5⟩,λd u ⟨F,e,I,L⟩=>by subst F;subst L;exact h6 e I⟩
         ·rintro⟨⟨h1,h2,h3,h4,h5⟩,h6⟩;exact⟨h1,h2,h3,h4,h5,λe he=>h6 _ _ ⟨rfl,e,he,rfl⟩⟩
       | box b' cs=>
         refine⟨False,λ_ _=>True,λH a K=>?_⟩;have a:H r=some (.box b' cs):=a;rw[a];exact⟨λh=>h.elim,λh=>h.1.elim⟩
       | iter b' p s=>
         refine⟨False,λ_ _=>True,λH a K=>?_⟩;have a:H r=some (.iter b' p s):=a;rw[a];exact⟨λh=>h.elim,λh=>h.1.elim⟩
       | tbox b' p s=>
         refine⟨False,λ_ _=>True,λH a K=>?_⟩;have a:H r=some (.tbox b' p s):=a;rw[a];exact⟨λh=>h.elim,λh=>h.1.elim⟩
       | mrow k es'=>
         refine⟨False,λ_ _=>True,λH a K=>?_⟩;have a:H r=some (.mrow k es'):=a;rw[a];exact⟨λh=>h.elim,λh=>h.1.elim⟩
       | miter b' c' l'=>
         refine⟨False,λ_ _=>True,λH a K=>?_⟩;have a:H r=some (.miter b' c' l'):=a;rw[a];exact⟨λh=>h.elim,λh=>h.1.elim⟩
       | raw E=>
         refine⟨False,λ_ _=>True,λH a K=>?_⟩;have a:H r=some (.raw E):=a;rw[a];exact⟨λh=>h.elim,λh=>h.1.elim⟩
   | _=>exact no
  have M:c.wid dst=dst:=by
   cases c
   case callb r f args=>exact absurd ⟨r,f,args,rfl⟩ hb
   case append rt el n b x y=>
    cases rt with
    |none=>rfl
    |some r=>exact absurd ⟨r,el,n,b,x,y,rfl⟩ h
   case store rt sz x y=>
    cases rt with
    |none=>rfl
    |some r=>exact absurd ⟨r,sz,x,y,rfl⟩ hs
   all_goals rfl
  rw[M];exact(qgo S c dst w Hr (λr el n b x y e=>h ⟨r,el,n,b,x,y,e⟩) (λr sz x y e=>hs ⟨r,sz,x,y,e⟩) (λr f args e=>hb ⟨r,f,args,e⟩)).lin1
theorem PL(S:Nat->Spc)(c:COp)(dst:Option Nat)(a:Sg)(Hr:ab):qpb (c.wid dst) λH K=>ax S c dst a Hr H K:=by
 by_cases hb:∃r f args,c= .callb r f args
 ·obtain⟨r,f,args,rfl⟩:=hb;intro b;simp only[ax,COp.wid];have no:∃(pre:Prop) (out:D->List (Nat×Res)->Prop),∀H,uK H (some r)=b->∀K:D->ab->Prop,False↔ (pre/\∀d u,out d u->K d (jX H (some r) u)):=⟨False,λ_ _=>True,λ_ _ _=>⟨λh=>h.elim,λh=>h.1⟩⟩
  cases hs:S f with
  |none=>exact no
  |pure k=>exact no
  | gen A l=>
    by_cases j:qml r A (args.map (ev a))
    ·obtain⟨p,o,h⟩:=id j;refine⟨p b,λd u=>o b d u,λH q K=>?_⟩;grind [nC,Spc,qml,O1]
    ·exact⟨False,λ_ _=>True,λH _ K=>⟨λh=>absurd h.1 j,λh=>h.1.elim⟩⟩
 ·exact(qgn S c dst a Hr hb).lin
theorem PM(S:Nat->Spc)(x:CI)(a:Sg)(Hr:ab):qpb x.wid λH K=>QT S x a Hr H K:=by
 cases x with
 |frz t n=>exact(aF _).lin
 | op dst g c=>
   intro j;obtain⟨pre,out,h⟩:=PL S c dst a Hr j;have k:∀H,uK H (c.wid dst)=j->∀K,ax S c dst a Hr H K↔ (pre/\∀d u,out d u->K d (jX H (c.wid dst) u)):=h;cases g with
   |none=>exact⟨pre,out,h⟩
   | some l=>
     obtain⟨s,b⟩:=l;simp only[QT,CI.wid];split
     ·rename_i t r;refine⟨t=b->pre,λd u=>(t=b/\out d u)\/(t=(!b)/\d= .undef/\u=[]),λH p K=>?_⟩;rw[k H p K];constructor;grind [ax,D,AR]
      ·rintro⟨h1,h2⟩;refine⟨λe=>⟨h1 e,λd u q=>h2 d u (.inl ⟨e,q⟩)⟩,λe=>?_⟩;have:=h2 .undef [] (.inr ⟨e,rfl,rfl⟩);grind [ax,D,AR]
     ·exact⟨True,λd u=>d= .undef/\u=[],λH _ K=>⟨λh=>⟨trivial,λd u ⟨h1,h2⟩=>by grind [ax,D,AR]⟩,λh=>by have:=h.2 .undef [] ⟨rfl,rfl⟩;grind [ax,D,AR]⟩⟩
     ·exact(aF _).lin j
def F0{c a:Sg} :∀(b:List (Nat×Nat×Operand)) (cs:List D) (K:List D->Prop),(∀x∈b.map (·.2.2),ev c x=ev a x)->(mJ c b cs K↔mJ a b cs K)
 | [],cs,K,_=>qGZ
 | (off,sz,x)::r,cs,K,h=>by
  have d:=h x (by simp);simp only[mJ,d];rw[F0 r _ K (λy j=>h y (by grind))]
theorem Gr{c:COp}{b a:Sg}{Hr:ab}{K:D->Prop}(h:∀x∈c.ops,ev b x=ev a x):am c b Hr K↔am c a Hr K:=by
 cases c
 case build z j=>simp only[am];exact F0 j _ _ h
 case box el im x=>cases im<;>simp only[am];rw[h x (by simp[COp.ops])]
 case bslice el n j=>
  have d:∀x∈j,ev b x=ev a x:=h;simp only[am];rw[qGF d]
 case clo f caps=>
  have d:∀x∈caps,ev b x=ev a x:=h;simp only[am];rw[qGF d]
 case slice n x lo hi=>
  simp only[am];rw[h x (by simp[COp.ops])];have h1:lo.map (λo=>yF (ev b o))=lo.map (λo=>yF (ev a o)):=by cases lo<;>simp;rw[h _ (by simp[COp.ops])]
  have h2:hi.map (λo=>yF (ev b o))=hi.map (λo=>yF (ev a o)):=by cases hi<;>simp;rw[h _ (by simp[COp.ops])]
  rw[h1,h2]
 case sslice x lo hi=>
  simp only[am];rw[h x (by simp[COp.ops])];have h1:lo.map (λo=>yF (ev b o))=lo.map (λo=>yF (ev a o)):=by cases lo<;>simp;rw[h _ (by simp[COp.ops])]
  have h2:hi.map (λo=>yF (ev b o))=hi.map (λo=>yF (ev a o)):=by cases hi<;>simp;rw[h _ (by simp[COp.ops])]
  rw[h1,h2]
 case m k xs=>
  have d:∀x∈xs,ev b x=ev a x:=h;simp only[am];rw[qGF d]
 case mm mx xs=>
  match xs with
  | []=>simp[am]
  | [x]=>simp[am]
  | [x,y]=>simp only[am];rw[h x (by simp[COp.ops]),h y (by simp[COp.ops])]
  | [x,y,z]=>simp only[am];rw[h x (by simp[COp.ops]),h y (by simp[COp.ops]),h z (by simp[COp.ops])]
  | _::_::_::_::_=>simp[am]
 case pick q x y=>simp only[am];rw[h q (by simp[COp.ops]),h x (by simp[COp.ops]),h y (by simp[COp.ops])]
 all_goals simp only[am]
 all_goals first
  |(rename_i x;rw[h x (by simp[COp.ops])];done)
  |(rename_i x y;rw[h x (by simp[COp.ops]),h y (by simp[COp.ops])];done)
  |(rename_i x i;rw[h x (by simp[COp.ops])];done)
  |skip
theorem qfT{S:Nat->Spc}{c:COp}{dst:Option Nat}{d a:Sg}{Hr H:ab}{K:D->ab->Prop}(h:∀x∈c.ops,ev d x=ev a x):ax S c dst d Hr H K↔ax S c dst a Hr H K:=by
 cases c
 case call f args=>
  grind [ax,qGF,COp.ops]
 case callv f args=>
  simp only[ax];rw[h f (by simp[COp.ops]),qGF (λx q=>h x (by grind [COp.ops]))]
 case callb r f args=>
  grind [ax,qGF,COp.ops]
 case alloc el z=>rfl
 case box el im x=>
  cases im with
  |true=>exact(lB rfl).trans ((Gr h).trans (lB rfl).symm)
  |false=>simp_all [ax,bK,COp.ops]
 case tbx el x=>simp_all [ax,bK,COp.ops]
 case nslice el n=>rfl
 case mslice el n k=>
  have j:∀x∈k,ev d x=ev a x:=h;simp only[ax,bK];rw[qGF j]
 case mkslice el n b agg z l cc=>simp_all [ax,bK,COp.ops]
 case store rt sz x y=>simp_all [ax,COp.ops]
 case srange x=>rfl
 case snext x=>rfl
 case append rt el n b x y=>
  grind [ax,COp.ops]
 case clear n agg z x=>rfl
 case copy n x y=>rfl
 case appmk el n b agg z x c=>simp_all [ax,bK,COp.ops]
 case m p xs=>
  have j:∀x∈xs,ev d x=ev a x:=h;cases p<;>first
   |exact(lB rfl).trans ((Gr h).trans (lB rfl).symm)
   |exact qGZ
   |(simp only[ax,bK];rw[qGF j])
 all_goals exact(lB rfl).trans ((Gr h).trans (lB rfl).symm)
def qpl:Operand->List Nat
 | .tmp t=>[t]
 | _=>[]
def CI.reads:CI->List Nat
 | .op _ g c=>c.ops.flatMap qpl++ (match g with|some (s,_)=>[s]|none=>[])
 | .frz _ _=>[]
def Kv{S:Nat->Spc}{x:CI}{d a:Sg}{Hr H:ab}{K:D->ab->Prop}(h:∀t∈x.reads,d t=a t):QT S x d Hr H K↔QT S x a Hr H K:=by
 cases x with
 |frz t n=>rfl
 | op dst g c=>
   have j:∀y∈c.ops,ev d y=ev a y:=λy l=>by
    cases y with
    |tmp t=>exact h t (by simp only[CI.reads,qFG,qG0];grind [qpl])
    | _=>rfl
   have hp:=qfT (S:=S) (dst:=dst) (Hr:=Hr) (H:=H) (K:=K) j;cases g with
   |none=>exact hp
   | some k=>
     obtain⟨s,b⟩:=k;simp only[QT];rw[<-h s (by simp[CI.reads])];grind
def WW(Hr H:ab):Prop:=∀i r,Hr i=some r->H i=some r
def qjH{d:D}{Hr H:ab}{K b:List D->Prop}(a:WW Hr H)(hk:∀l,K l->b l)(h:D3 d Hr K):D3 d H b:=by
 unfold D3 at h ⊢;split at h<;>(try simp only at h ⊢)
 grind;grind
 ·split at h
  ·rename_i e;rw[a _ _ e];grind
  grind
def qjy{c:MOp}{ds:List D}{Hr H:ab}{K:D->Prop}(b:WW Hr H)(a:yr c ds Hr K):yr c ds H K:=by
 unfold yr at a ⊢;split at a;grind [qjH];grind [qjH]
 ·refine⟨a.1,?_⟩;have a:=a.2;split at a
  ·rename_i e;rw[b _ _ e];omega
  ·rename_i e;rw[b _ _ e];refine⟨a.1,?_⟩;have a:=a.2;unfold FV at a ⊢;split at a
   ·rename_i e;rw[b _ _ e];omega
   grind
  grind
 omega;omega
theorem qfP{c:COp}{d:Sg}{Hr H:ab}{K:D->Prop}(b:WW Hr H)(a:am c d Hr K):am c d H K:=by
 cases c
 case load agg sz x=>
  simp only[am]at a ⊢;split at a;omega
  ·split at a
   ·rename_i h;rw[b _ _ h];omega
   grind
  ·split at a
   ·rename_i h;rw[b _ _ h];omega
   grind
  omega
 case iaddr n x i=>
  simp only[am]at a ⊢;split at a
  ·split at a;omega
   ·split at a
    ·rename_i h;rw[b _ _ h];omega
    grind
   omega;omega
  omega
 case slice n x lo hi=>
  simp only[am]at a ⊢;split at a;omega
  ·split at a
   ·rename_i h;rw[b _ _ h];exact a
   ·exact a.elim
  ·exact a
  ·exact a
  ·exact a.elim
 case bstr x=>
  simp only[am]at a ⊢;split at a
  ·split at a
   ·rename_i h;rw[b _ _ h];exact a
   ·exact a.elim
  ·exact a
  ·exact a.elim
 case len x=>
  simp only[am]at a ⊢;split at a
  ·exact a
  ·split at a
   ·rename_i h;rw[b _ _ h];exact a
   ·exact a.elim
  ·exact a
  ·exact a
  ·exact a.elim
 case box el im x=>cases im<;>exact a
 case m j xs=>exact qjy b a
 case mm mx xs=>
  match xs,a with
  | [],a=>exact a
  | [x],a=>exact a
  | [x,y],a=>exact a
  | [x,y,z],a=>exact a
  | _::_::_::_::_,a=>exact a
 all_goals exact a
def qqT{n:Nat}{d:D}{Hr H:ab}{K b:List D->Prop}(a:WW Hr H)(hk:∀l,K l->b l)(h:pQ n d Hr K):pQ n d H b:=by
 unfold pQ at h ⊢;split at h<;>(try simp only at h ⊢)
 grind
 ·split at h
  ·rename_i e;rw[a _ _ e];grind
  grind
 grind
 ·split at h
  ·rename_i e;rw[a _ _ e];grind
  grind
def qnd{n:Nat}{d:D}{Hr H:ab}{K a:List D->Prop}(b:WW Hr H)(hk:∀l,K l->a l)(h:yM n d Hr K):yM n d H a:=by
 unfold yM at h ⊢;grind [qqT]
theorem qja{S:Nat->Spc}{c:COp}{dst:Option Nat}{p:Sg}{Hr H:ab}{K:D->ab->Prop}(j:WW Hr H)(a:ax S c dst p Hr H K):aA S c dst p H K:=by
 by_cases d:c.isRead=true
 ·have h:=qfP j ((lB d).1 a);cases c<;>first|exact h|(simp[COp.isRead]at d;done)|skip
  ·rename_i el im x;cases im;grind [COp.isRead]
   ·exact h
  ·rename_i k xs;cases k<;>first|(simp[COp.isRead,MOp.isRead]at d;done)|exact h
 ·cases c
  case call f args=>
   simp only[ax]at a;simp only[aA];cases h:S f with
   |pure q=>rw[h]at a;exact a
   |none=>rw[h]at a;exact a.elim
   | gen A s=>
     rw[h]at a;cases dst with
     |none=>exact a.elim
     |some t=>exact a.2
  case callv f args=>
   simp only[ax]at a;simp only[aA];split at a
   ·rename_i u;rw[u];split at a
    ·rename_i q h;simp only[h];exact a
    grind
   grind
  case callb r f args=>
   simp only[ax]at a;simp only[aA];cases h:S f with
   |pure q=>rw[h]at a;exact a.elim
   |none=>rw[h]at a;exact a.elim
   |gen A s=>rw[h]at a;exact a.2
  case tbx el x=>exact a
  case box el im x=>
   cases im
   ·exact a
   ·exact absurd rfl d
  case store rt sz x y=>
   obtain⟨h1,h2,a⟩:=a;simp only[aA,bK];grind
  case srange x=>exact a.elim
  case snext x=>exact a.elim
  case append rt el n b x y=>
   simp only[ax]at a;simp only[aA,bK];refine qnd j ?_ a;grind
  case clear n agg z x=>exact a.elim
  case copy n x y=>exact a.elim
  case appmk el n b agg z x c=>exact a
  case alloc el z=>exact a
  case nslice el n=>exact a
  case mslice el n w=>exact a
  case mkslice el n b agg z l cc=>exact a
  case m k xs=>
   cases k
   case mk=>exact a
   case upd=>exact a.elim
   case rng=>exact a.elim
   case next=>exact a.elim
   case del=>exact a.elim
   all_goals exact absurd rfl d
  all_goals exact absurd rfl d
def qfa{P:Program}{o:Oper}{a:Act}{w:World}{next:Act->World->Prop}(h:o.wp P a w next λ_ _ _=>False):∃j w',next j w':=by
 unfold Oper.wp at h;generalize (execOp a.eval o).run P w=r at h;cases r with
 | ok k w'=>
   cases k<;>simp only[Oper.upon]at h<;>first|exact⟨_,_,h⟩|exact h.elim|skip
   case enter f args=>
    obtain⟨e,b,fr,d,_⟩:=h [];cases e with
    |returned v=>grind
    |panicked c=>grind
    |outgrown=>obtain⟨_,_,l⟩:=d;grind
   case row row args=>
    obtain⟨v,b,d,_⟩:=h default [];grind
 |halt x w'=>cases x<;>simp only[Oper.upon]at h
section
variable {P:Program}{im:List Nat}{E:CO}{S:Nat->Spc}{ops:Array Oper}
def iI{N:Nat}{o:Oper}{x:CI}(h:ft P im N ops o=some x):∃g c,x= .op o.dst g c/\da P im o=some c/\Jk ops o=some g/\∀t,o.dst=some t->t<N:=by
 unfold ft at h;simp only[qFD,qFA]at h;grind
theorem SM{o:Oper}{x:CI}{k:Sg}{Hr H:ab}{a:Act}{w:World}{K:D->ab->Prop}{z:List PanicEntry->Prop}(J:dV E.dq P z S x)(L:ft P im E.N ops o=some x)(p:St E k H a w)(y:WW Hr H)(F:QT S x k Hr H K)
 {next:Act->World->Prop} {Q:Exit->Act->World->Prop} (q:∀c w',qcX E z c w'->Q (.panic c) a w') (d:∀r H' v w',K r H'->St E (gx k o.dst r) H' (a.put o.dst v) w'->next (a.put o.dst v) w'):
 if Region.wanted o (yielded ops a.tmps)then o.wp P a w next Q else next (a.put o.dst undef) w:=by
 obtain⟨g,c,rfl,hc,M,j⟩:=iI L;have t:=p;obtain⟨O,U,tp,W,I⟩:=p;have A:tF g k (λl=>l=k->ax S c o.dst k Hr H K) (λl=>l=k->K .undef H):=by
  cases g with
  |none=>exactλ_=>F
  | some Y=>
    obtain⟨s,b⟩:=Y;simp only[QT]at F;simp only[tF];grind
 rcases D7 M I A with⟨h,u⟩|⟨h,C⟩
 ·rw[if_pos h];exact Ly J hc W O U I j (qja y (u rfl)) q d
 ·rw[if_neg (by grind)];exact d _ _ _ _ (C rfl) (t.skip o.dst j)
def qb4{o:Oper}{x:CI}{b:Sg}{Hr H:ab}{a:Act}{w:World}{K:D->ab->Prop}(d:dV E.dq P Ze S x)(p:ft P im E.N ops o=some x)(j:St E b H a w)(k:WW Hr H)(q:QT S x b Hr H K):
 ∃r H' l w',K r H'/\St E (gx b o.dst r) H' l w':=by
 have h:=SM (Q:=λ_ _ _=>False) (next:=λl w'=>∃r H',K r H'/\St E (gx b o.dst r) H' l w') d p j k q (λc w' h=>h.1) (λr H' v w' hk hs=>⟨r,H',hk,hs⟩);grind [D,qfa]
def mK(x y:CI):Bool:=
 (match x.dst with|some d=>!y.reads.contains d|none=>true) && (match y.dst with|some e=>!x.reads.contains e|none=>true) &&
 (match x.dst,y.dst with|some d,some e=>d !=e|_,_=>true) && (match x.wid,y.wid with|some p,some q=>qaW p !=qaW q|_,_=>true)
def QF{x y:CI}(h:mK x y=true):(∀d,x.dst=some d->d∉y.reads)/\(∀e,y.dst=some e->e∉x.reads)/\(∀d e,x.dst=some d->y.dst=some e->d≠e)/\(∀p q,x.wid=some p->y.wid=some q->qaW p≠qaW q):=by
 unfold mK at h;grind
def Vb{H:ab}{p q:Option Nat}(h:∀d e,p=some d->q=some e->qaW d≠qaW e)(u:List (Nat×Res)):uK (jX H p u) q=uK H q:=by
 funext i;simp only[uK];by_cases a:L8 q i
 ·rw[if_pos a,if_pos a];cases q with
  |none=>exact a.elim
  | some q=>
    cases p with
    |none=>rfl
    | some p=>
      have hn:¬L8 (some p) i:=λhp=>h p q rfl rfl (Eq.trans (Eq.symm hp) a)
      simp_all [jX]
 grind
def qfq{a:Sg}{t s:Nat}(h:t≠s)(d e:D):gx (gx a (some t) d) (some s) e=gx (gx a (some s) e) (some t) d:=by
 funext k;simp only[gx,upd];grind
def qbi{a:Sg}{t s:Option Nat}(h:∀d e,t=some d->s=some e->d≠e)(d e:D):gx (gx a t d) s e=gx (gx a s e) t d:=by
 cases t with
 |none=>rfl
 | some t=>
   cases s with
   |none=>rfl
   |some s=>exact qfq (h t s rfl rfl) d e
def qcO{H:ab}{t s:Option Nat}(h:∀d e,t=some d->s=some e->qaW d≠qaW e)(u v:List (Nat×Res)):jX (jX H t u) s v=jX (jX H s v) t u:=by
 funext i;have hn:¬(L8 t i/\L8 s i):=λ⟨h1,h2⟩=>by
  cases t with
  |none=>exact h1
  | some t=>cases s with
    |none=>exact h2
    |some s=>exact h t s rfl rfl (Eq.trans (Eq.symm h1) h2)
 by_cases h1:L8 t i;simp_all [jX];simp_all [jX]
def qh2{a:Sg}{t:Nat}{d:D}{l:List Nat}(h:t∉l):∀s∈l,gx a (some t) d s=a s:=by
 intro s hs;simp only[gx,upd];grind
def Kn{a:Sg}{t:Option Nat}{d:D}{l:List Nat}(h:∀s,t=some s->s∉l):∀s∈l,gx a t d s=a s:=by
 cases t with
 |none=>exactλ_ _=>rfl
 |some t=>exact qh2 (h t rfl)
theorem XD{x:CI×ab}{K:Sg->ab->Prop} :∀(p r:List (CI×ab)) (b:Sg) (H:ab),(∀y∈p,mK y.1 x.1=true)->qhx S (p++x::r) b H K->∀(k:ab),uK H x.1.wid=k->
 ∀(pre:Prop) (out:D->List (Nat×Res)->Prop),(∀H,uK H x.1.wid=k->∀K,QT S x.1 b x.2 H K↔ (pre/\∀d u,out d u->K d (jX H x.1.wid u)))->∀d u,out d u->qhx S (p++r) (gx b x.1.dst d) (jX H x.1.wid u) K
 | [],r,b,H,_,A,k,s,pre,out,a,d,u,c=>((a H s _).1 A).2 d u c
 | y::p,r,b,H,t,A,k,s,pre,out,a,d,u,c=>by
   obtain⟨h1,h2,h3,h4⟩:=QF (t y (by simp));obtain⟨F,I,h⟩:=PM S y.1 b y.2 (uK H y.1.wid);have h:∀H',uK H' y.1.wid=uK H y.1.wid->∀K,QT S y.1 b y.2 H' K↔ (F/\∀d u,I d u->K d (jX H' y.1.wid u)):=h;have w:=(h H rfl _).1 A;have l:∀H K,QT S y.1 (gx b x.1.dst d) y.2 H K↔QT S y.1 b y.2 H K:=λH K=>by
    exact Kv (Kn h2)
   have J:uK (jX H x.1.wid u) y.1.wid=uK H y.1.wid:=Vb (λd e L he q=>h4 e d he L q.symm) u;refine(l _ _).2 ((h _ J _).2 ⟨w.1,λe v C=>?_⟩);have hk:=w.2 e v C;have j:∀H,uK H x.1.wid=k->∀K,QT S x.1 (gx b y.1.dst e) x.2 H K↔ (pre/\∀d u,out d u->K d (jX H x.1.wid u)):=λH M K=>by
    rw[<-a H M K];exact Kv (Kn h1)
   have N:uK (jX H y.1.wid v) x.1.wid=k:=by grind [Vb]
   have:=XD p r (gx b y.1.dst e) (jX H y.1.wid v) (λz hz=>t z (by grind)) hk k N pre out j d u c;simp_all [qhx,mK,ab,uK,QT,qbi,qcO]
theorem Se{x:CI×ab}{K:Sg->ab->Prop} :∀(h C:List (CI×ab)) (k:Sg) (H:ab) (a:Act) (w:World),(∀y∈h,dV E.dq P Ze S y.1)->(∀y∈h,mK y.1 x.1=true)->
 (∀y∈h,∃o,ft P im E.N ops o=some y.1)->(h.Pairwise λy z=>∀t,L8 y.1.wid t->z.2 t=none)->(∀y∈h,∀t,L8 y.1.wid t->x.2 t=none)->St E k H a w->(∀y∈h,WW y.2 H)->WW x.2 H->qhx S (h++x::C) k H K->∀(A:ab),uK H x.1.wid=A->
 ∀(pre:Prop) (out:D->List (Nat×Res)->Prop),(∀H,uK H x.1.wid=A->∀K,QT S x.1 k x.2 H K↔ (pre/\∀d u,out d u->K d (jX H x.1.wid u)))->pre
 | [],C,k,H,a,w,_,_,_,_,_,_,_,_,Y,A,F,pre,out,b=>((b H F _).1 Y).1
 | y::h,C,k,H,a,w,I,J,j,L,M,Z,O,hlx,Y,A,F,pre,out,b=>by
   obtain⟨h1,h2,h3,h4⟩:=QF (J y (by simp));obtain⟨o,ho⟩:=j y (by simp);have Q:y.1.dst=o.dst:=by
    obtain⟨g,c,hxe,_⟩:=iI ho;rw[hxe];rfl
   obtain⟨hb1,hb2⟩:=qG5.1 L;have keep:∀(Hr:ab),WW Hr H->(∀t,L8 y.1.wid t->Hr t=none)->∀u,WW Hr (jX H y.1.wid u):=λHr hh hb u i r hi=>by
    by_cases hw:L8 y.1.wid i;grind
    ·simp only[jX];rw[if_neg hw];exact hh i r hi
   obtain⟨qy,oy,l⟩:=PM S y.1 k y.2 (uK H y.1.wid);have l:∀H',uK H' y.1.wid=uK H y.1.wid->∀K,QT S y.1 k y.2 H' K↔ (qy/\∀d u,oy d u->K d (jX H' y.1.wid u)):=l;have U:=(l H rfl _).1 Y;have hv2:QT S y.1 k y.2 H λd H'=>qhx S (h++x::C) (gx k y.1.dst d) H' K/\((∀z∈h,WW z.2 H')/\WW x.2 H')/\uK H' x.1.wid=A:=(l H rfl _).2 ⟨U.1,λd u W=>⟨U.2 d u W,⟨λz hz=>keep z.2 (O z (by grind)) (hb1 z hz) u,keep x.2 hlx (M y (by simp)) u⟩,by grind [Vb]⟩⟩
   obtain⟨r,H',a',w',⟨hk,q,hr'⟩,s⟩:=qb4 (I y (by simp)) ho Z (O y (by simp)) hv2;rw[<-Q]at s;have p:∀H,uK H x.1.wid=A->∀K,QT S x.1 (gx k y.1.dst r) x.2 H K↔ (pre/\∀d u,out d u->K d (jX H x.1.wid u)):=λH hr K=>by
    rw[<-b H hr K];exact Kv (Kn h1)
   exact Se h C _ H' a' w' (λz hz=>I z (by grind)) (λz hz=>J z (by grind)) (λz hz=>j z (by grind)) hb2 (λz hz=>M z (by grind)) s q.1 q.2 hk A hr' pre out p
end
def Lb(o:Oper):List Nat:=(o.after.toList.filter λe=>Region.binds .any e).map (·.on)
def WF:List Oper->List (List Nat)->List (List Nat)
 | [],a=>a
 |o::r,a=>WF r (a++ [((Lb o) ++ (Lb o).flatMap λj=>(a[j]?).getD []).eraseDups])
def qeO(ops:Array Oper):List (List Nat):=WF ops.toList []
def qcl(an:List (List Nat))(j i:Nat):Bool:=((an[j]?).getD []).contains i
def qb8(ops:Array Oper)(cis:List CI)(m:Nat):Bool:=
 (List.range ops.size).all (λi=>((ops[i]?).map λo=>(Lb o).all (· < i)).getD true) &&
 (List.range ops.size).all (λj=>decide (j<m)||(List.range j).all λi=>qcl (qeO ops) j i) &&
 (List.range m).all (λj=>(List.range j).all λi=>qcl (qeO ops) j i||(match cis[i]?,cis[j]? with|some x,some y=>mK x y|_,_=>false)) &&
 decide (m<=ops.size)
def AT(listed:Array Bool)(i:Nat):Prop:=listed.getD i false=true
def DC(ops:Array Oper)(listed:Array Bool):Prop:=∀i o,ops[i]? =some o->AT listed i->∀j∈Lb o,AT listed j
def RU{a:Type}[BEq a][LawfulBEq a]{l:List a}{x:a}(h:x∈l.eraseDups):x∈l:=by
 simp_all
theorem qlL{ops:Array Oper}{listed:Array Bool}(c:DC ops listed):∀(r:List Oper) (a:List (List Nat)),(∀(k:Nat),r[k]? =ops[a.length+k]?)->
 (∀(k:Nat) (l:List Nat),a[k]? =some l->(∀o,ops[k]? =some o->∀j∈Lb o,AT listed j)->∀j∈l,AT listed j)->
 ∀(k:Nat) (l:List Nat),(WF r a)[k]? =some l->(∀o,ops[k]? =some o->∀j∈Lb o,AT listed j)->∀j∈l,AT listed j
 | [],a,_,b=>b
 | o::r,a,p,b=>by
   simp only[WF];refine qlL c r _ (λk=>?_) (λk l hl q j hj=>?_)
   ·have:=p (k+1);grind
   ·have ho:ops[a.length]? =some o:=by
     have:=p 0;grind
    by_cases hk:k<a.length;grind
    ·rw[qF4 (by omega)]at hl;have d:k -a.length=0:=by
      grind
     have h:k=a.length:=by omega
     subst h;rw[d]at hl;simp at hl;subst hl;have s:=q o ho;rcases qFG.1 (RU hj)with hj|hj;grind;grind [DC]
def Ji{ops:Array Oper}{listed:Array Bool}(a:DC ops listed){j i:Nat}(h:qcl (qeO ops) j i=true)(b:∀o,ops[j]? =some o->∀k∈Lb o,AT listed k):AT listed i:=by
 unfold qcl at h;cases hl:(qeO ops)[j]? with
 |none=>grind
 | some l=>
   rw[hl]at h;exact qlL a ops.toList [] (λk=>by simp) (λk l h=>by grind) j l hl b i (by grind)
theorem vY{ops:Array Oper}{listed:Array Bool}{i:Nat} :i∈Region.ready .any ops listed↔i<ops.size/\listed.getD i true=false/\∀o,ops[i]? =some o->∀j∈Lb o,AT listed j:=by
 unfold Region.ready;rw[qGA,qGQ];constructor
 ·rintro⟨h1,h2⟩;simp only[qFJ,qHi]at h2;refine⟨h1,h2.1,λo ho j a=>?_⟩;rw[ho]at h2;simp only[qG8,qGp,qIe]at h2;unfold Lb at a;obtain⟨e,he,rfl⟩:=qFL.1 a;rw[qGA]at he;obtain⟨k,hk,c⟩:=List.mem_iff_getElem.1 he.1;have:=h2.2 k (by omega);have b:o.after[k]'(by omega)=e:=by grind
  grind [AT]
 ·rintro⟨h1,h2,h3⟩;have ho:ops[i]? =some ops[i]:=by simp
  refine⟨h1,?_⟩;simp only[h2,Bool.not_false,qHg,ho,qG8,qGp,qIe];intro k hk;by_cases hb:Region.binds .any (ops[i].after[k])=true
  ·have:=h3 _ ho (ops[i].after[k]).on (by
    unfold Lb;grind)
   grind [AT]
  grind
def Qc{listed:Array Bool}{i k:Nat}(hi:i<listed.size):AT (listed.setIfInBounds i true) k↔k=i\/AT listed k:=by
 simp only[AT,qGu,Array.getElem?_setIfInBounds];grind
def qk4{ops:Array Oper}{listed:Array Bool}(a:DC ops listed)(hs:listed.size=ops.size){i:Nat}(hi:i∈Region.ready .any ops listed):DC ops (listed.setIfInBounds i true):=by
 grind [DC,vY,Qc]
def qB{ops:Array Oper}{listed:Array Bool}(hs:listed.size=ops.size){i:Nat}(hi:i<ops.size):listed.getD i true=false↔ ¬AT listed i:=by
 grind [AT]
section
variable {P:Program}{im:List Nat}{E:CO}{S:Nat->Spc}{ops:Array Oper}
def xt{cis:List CI}{N:Nat}(h:lP P im N ops=some cis):cis.length=ops.size/\∀(i:Nat) (o:Oper),ops[i]? =some o->∃x,cis[i]? =some x/\ft P im N ops o=some x:=by
 unfold lP at h;have key:∀(l:List Oper) (cs:List CI),l.mapM (ft P im N ops)=some cs->cs.length=l.length/\∀(i:Nat) (o:Oper),l[i]? =some o->∃x,cs[i]? =some x/\ft P im N ops o=some x:=by
  intro l
  induction l with
  |nil=>simp
  | cons o l a=>
    intro cs h;rw[qGq]at h;simp only[qFD,qFA]at h;grind
 obtain⟨h1,h2⟩:=key _ _ h;simp_all
theorem Oe{Q:Exit->Act->World->Prop}{K:Sg->ab->Prop}{z:List PanicEntry->Prop}(q:∀c a w',a.defers=E.ds->qcX E z c w'->Q (.panic c) a w')(hQ:∀u H a w,St E u H a w->K u H->Q .normal a w)
 (O:∀i o,ops[i]? =some o->∀j∈Lb o,j<i) {m:Nat} (U:∀j,m<=j->j<ops.size->∀i,i<j->qcl (qeO ops) j i=true):
 ∀ (tl:List CI),(∀x∈tl,dV E.dq P z S x)->∀(k:Nat) (listed:Array Bool),m<=k->k<=ops.size->listed.size=ops.size->(∀i,i<ops.size->(AT listed i↔i<k))->DC ops listed->
  ((ops.toList.drop k).mapM (ft P im E.N ops)=some (tl.filter CI.real))->∀(u:Sg) (H:ab) (a:Act) (w:World),St E u H a w->HQ S tl u H K->
  wpAny P .any ops Q (ops.size -k) listed a w
 | [],W,k,listed,I,hk,hs,hd,A,hm,u,H,a,w,l,J=>by
   have C:k=ops.size:=by
    cases Y:ops.toList.drop k with
    | nil=>
      simp_all;omega
    | cons o r=>
      grind [qFA]
   subst C;rw[qHt];refine⟨?_,hQ u H a w l J⟩;rw[List.eq_nil_iff_forall_not_mem];grind [vY,qB]
 | .frz t n::tl,W,k,listed,I,hk,hs,hd,A,hm,u,H,a,w,l,J=>by
   simp only[HQ]at J;obtain⟨p,H',b,L⟩:=Tp l J;exact Oe q hQ O U tl (λx hx=>W x (by grind)) k listed I hk hs hd A (by grind [CI.real]) p H' a w b L
 | .op dst g c::tl,W,k,listed,I,hk,hs,hd,A,hm,u,H,a,w,l,J=>by
   have C:k<ops.size:=by
    cases Y:ops.toList.drop k with
    |nil=>grind [CI.real]
    | cons o r=>
      have:=congrArg List.length Y;grind
   have M:ops.toList.drop k=ops[k]::ops.toList.drop (k+1):=by
    grind [qGh]
   rw[M,qGq]at hm;simp only[qFD,qFA,qHH,CI.real,if_true]at hm;obtain⟨x,hx,y,hy,h⟩:=hm;cases h;obtain⟨g',c',hxe,hc,hg,F⟩:=iI hx;cases hxe;have hfu:ops.size -k=(ops.size - (k+1)) +1:=by omega
   rw[hfu];have hok:ops[k]? =some ops[k]:=by simp
   have Z:k∈Region.ready .any ops listed:=vY.2 ⟨C,(qB hs C).2 (λh=>by grind),λo ho j hj=>by
    grind⟩
   refine⟨λh=>(by grind),λi hi=>?_⟩;obtain⟨h1,h2,h3⟩:=vY.1 hi;rw[qB hs h1]at h2;have hik:i=k:=by
    grind [qHV,Ji]
   subst hik;unfold wpOp;rw[hok];simp only[];have hst0:=l;obtain⟨hdf,hN,tp,hw,hr⟩:=l;simp only[HQ]at J;have s:∀(p:Sg) (H':ab) (a':Act) (w':World),St E p H' a' w'->HQ S tl p H' K->wpAny P .any ops Q (ops.size - (i+1)) (listed.setIfInBounds i true) a' w':=λp H' a' w' b L=>
    Oe q hQ O U tl (λx hx=>W x (by grind)) (i+1) _ (by omega) (by omega) (by grind) (λj hj=>by grind [Qc]) (qk4 A hs hi) hy p H' a' w' b L
   rcases D7 hg hr J with⟨d,hyes⟩|⟨d,hno⟩
   ·rw[if_pos d];exact .inl (Ly (W (.op _ g c) (qH8 ..)) hc hw hdf hN hr F hyes (λc w'=>q c a w' hdf) (λr H' x w' hk b=>s _ _ _ _ b hk))
   ·rw[if_neg (by simp[d])];exact s _ _ _ _ (hst0.skip _ F) hno
theorem qny{Q:Exit->Act->World->Prop}{K:Sg->ab->Prop}{z:List PanicEntry->Prop}(hpan:∀c a w',a.defers=E.ds->qcX E z c w'->Q (.panic c) a w')(hQ:∀C H a w,St E C H a w->K C H->Q .normal a w){cis:List CI}(hcis:lP P im E.N ops=some cis)
 (hC0:∀i o,ops[i]? =some o->∀j∈Lb o,j<i) {m:Nat} (hS:∀j x,j<m->cis[j]? =some x->dV E.dq P z S x) (hquiet:∀j i x y,j<i->i<m->cis[j]? =some x->cis[i]? =some y->mK x y=true->dV E.dq P Ze S x) (hm:m<=ops.size) (hC2:∀j,m<=j->j<ops.size->∀i,i<j->qcl (qeO ops) j i=true)
 (hC1:∀j,j<m->∀i,i<j->qcl (qeO ops) j i=true\/ ∃x y,cis[i]? =some x/\cis[j]? =some y/\mK x y=true) {tl:List CI} (htl:(ops.toList.drop m).mapM (ft P im E.N ops)=some (tl.filter CI.real)) (hStl:∀x∈tl,dV E.dq P z S x) {Hr:Nat->ab}
 (hban:∀i j x t,i<m->j<m->i≠j->cis[i]? =some x->L8 x.wid t->Hr j t=none\/qcl (qeO ops) i j=true) (W:∀i j x t,i<m->j<m->i<j->cis[i]? =some x->L8 x.wid t->Hr j t=none):
 ∀ (n:Nat) (F:List Nat) (listed:Array Bool),F.length=n->F.Pairwise (· < ·)->(∀i∈F,i<m)->listed.size=ops.size->(∀i,i<ops.size->(AT listed i↔i<m/\i∉F))->DC ops listed->
  ∀(C:Sg) (H:ab) (a:Act) (w:World),St E C H a w->(∀i∈F,WW (Hr i) H)->qhx S (F.map λi=>((cis[i]?).getD (.frz 0 0),Hr i)) C H (λC H=>HQ S tl C H K)->
  wpAny P .any ops Q (F.length+ (ops.size -m)) listed a w:=by
 obtain⟨hclen,Y⟩:=xt hcis;intro n
 induction n with
 | zero=>
   intro F listed hn I M hs hd O C H a w Z hle hv;have:F=[]:=qFU hn;subst this;simp only[qHq,qGn];exact Oe hpan hQ hC0 hC2 tl hStl m listed (qFH _) hm hs (λi hi=>by grind) O htl C H a w Z hv
 | succ n ih=>
   intro F listed hn I M hs hd O C H a w Z hle hv;have hfu:F.length+ (ops.size -m)=(n+ (ops.size -m)) +1:=by omega
   rw[hfu];have hne:Region.ready .any ops listed≠ []:=by
    cases F with
    |nil=>simp at hn
    | cons u F=>
      have hum:=M u (by simp);have:u∈Region.ready .any ops listed:=vY.2 ⟨by omega,(qB hs (by omega)).2 (λh=>((hd u (by omega)).1 h).2 (by simp)),λo ho j l=>by
       have hju:=hC0 u o ho j l;refine(hd j (by omega)).2 ⟨by omega,λhmem=>?_⟩;rcases qFK.1 hmem with rfl|hmem
       ·omega
       ·have:=qHr I hmem;omega⟩
      intro h;rw[h]at this;cases this
   refine⟨λh=>absurd h hne,λi hi=>?_⟩;obtain⟨h1,h2,h3⟩:=vY.1 hi;rw[qB hs h1]at h2;have hiu:i∈F:=by
    by_cases J:i<m
    ·by_cases hmem:i∈F
     ·exact hmem
     ·exact absurd ((hd i h1).2 ⟨J,hmem⟩) h2
    ·exfalso;cases F with
     |nil=>simp at hn
     | cons u F=>
       have hum:=M u (by simp);have:=Ji O (hC2 i (by omega) h1 u (by omega)) h3;exact((hd u (by omega)).1 this).2 (by simp)
   obtain⟨s,L,rfl⟩:=qHP hiu;have J:i<m:=M i hiu;have hoi:ops[i]? =some ops[i]:=by simp[h1]
   obtain⟨x,hxi,hx⟩:=Y i _ hoi;have b:∀j∈s,j<i:=λj l=>by
    have:=qGs.1 I;exact this.2.2 j l i (by simp)
   have hap:∀y∈s.map (λi=>((cis[i]?).getD (.frz 0 0),Hr i)),mK y.1 x=true:=by
    intro y hy;obtain⟨j,l,rfl⟩:=qFL.1 hy;have A:=b j l;rcases hC1 i J j A with h|⟨x',y',e1,e2,e3⟩
    ·exfalso;have:=Ji O h h3;exact((hd j (by omega)).1 this).2 (by simp[l])
    ·rw[hxi]at e2;cases e2;simp only[e1,qGp];exact e3
   rw[qHs,qF6,hxi]at hv;simp only[qGp]at hv;obtain⟨pre,out,q⟩:=PM S x C (Hr i) (uK H x.wid);have q:∀H',uK H' x.wid=uK H x.wid->∀K,QT S x C (Hr i) H' K↔ (pre/\∀d u,out d u->K d (jX H' x.wid u)):=q;have hgx:∀(j:Nat),j<i->∃y o,cis[j]? =some y/\ft P im E.N ops o=some y:=λj l=>by
    obtain⟨y',p,U⟩:=Y j ops[j] (by simp);exact⟨y',_,p,U⟩
   have hpre:=Se (x:=(x,Hr i)) (im:=im) (ops:=ops) _ _ C H a w (λy hy=>by
    obtain⟨j,l,rfl⟩:=qFL.1 hy;obtain⟨y',o',p,U⟩:=hgx j (b j l);simp only[p,qGp];have hap1:=hap ((cis[j]?).getD (.frz 0 0),Hr j) (qFL.2 ⟨j,l,rfl⟩);simp only[p,qGp]at hap1;exact hquiet j i y' x (b j l) J p hxi hap1) hap (λy hy=>by
    obtain⟨j,l,rfl⟩:=qFL.1 hy;obtain⟨y',o',p,U⟩:=hgx j (b j l);simp only[p,qGp];exact⟨_,U⟩) (by
    rw[qHA];refine(qGs.1 I).1.imp_of_mem ?_;intro j k l hk hjk t ht;obtain⟨y',o',p,U⟩:=hgx j (b j l);simp only[p,qGp]at ht;have:=b k hk;exact W j k y' t (by omega) (by omega) hjk p ht) (λy hy t ht=>by
    obtain⟨j,l,rfl⟩:=qFL.1 hy;have A:=b j l;obtain⟨y',o',p,U⟩:=hgx j A;simp only[p,qGp]at ht;exact W j i y' t (by omega) (by omega) A p ht) Z (λy hy=>by
    obtain⟨j,l,rfl⟩:=qFL.1 hy;exact hle j (by simp[l])) (hle i (by simp)) hv _ rfl pre out q
   have htake:=XD (x:=(x,Hr i)) _ _ C H hap hv _ rfl pre out q;obtain⟨g,c,hxe,_,_,_⟩:=iI hx;have hdx:x.dst=(ops[i]).dst:=by rw[hxe];rfl
   have hvx:QT S x C (Hr i) H λd H'=>qhx S ((s++L).map λi=>((cis[i]?).getD (.frz 0 0),Hr i)) (gx C x.dst d) H' (λC H=>HQ S tl C H K)/\∀j∈s++L,WW (Hr j) H':=(q H rfl _).2 ⟨hpre,λd u hout=>⟨by rw[qHs];exact htake d u hout,λj l k r hk=>by
    have hju:j∈s++i::L:=by
     rcases qFG.1 l with h|h<;>simp[h]
    have hle':=hle j hju;have A:i≠j:=λe=>by
     subst e;have:=qGs.1 I;rcases qFG.1 l with h|h
     ·have:=b i h;omega
     ·have h4:=qHr this.2.1 h;omega
    have hjm:=M j hju;by_cases hw:L8 x.wid k
    ·rcases hban i j x k J hjm A hxi hw with h|h
     ·rw[h]at hk;cases hk
     ·have h5:=Ji O h h3;exact absurd hju ((hd j (by omega)).1 h5).2
    ·simp only[jX];rw[if_neg hw];exact hle' k r hk⟩⟩
   unfold wpOp;rw[hoi];simp only[];have hlen:(s++L).length=n:=by simp at hn ⊢;omega
   have hsub:(s++L).Pairwise (· < ·):=I.sublist (by simp);have hnd:i∉s++L:=by
    have:=qGs.1 I;intro h;rcases qFG.1 h with h|h
    ·have:=b i h;omega
    ·have h4:=qHr this.2.1 h;omega
   have hps:=SM (Q:=Q) (next:=wpAny P .any ops Q (n+ (ops.size -m)) (listed.setIfInBounds i true)) (hS i x J hxi) hx Z (hle i (by simp)) hvx (λc w'=>hpan c a w' Z.1) (λr H' v w' hk hst'=>by
    rw[<-hdx]at hst';have:=ih (s++L) (listed.setIfInBounds i true) hlen hsub (λj l=>M j (by simp at l ⊢;rcases l with h|h<;>simp[h])) (by simpa using hs) (λj l=>by
     rw[Qc (by omega),hd j l];constructor
     ·rintro(rfl|⟨ha,hb⟩)
      ·exact⟨J,hnd⟩
      ·exact⟨ha,λh=>hb (by simp at h ⊢;rcases h with h|h<;>simp[h])⟩
     ·rintro⟨ha,hb⟩;by_cases A:j=i
      ·exact .inl A
      ·exact .inr ⟨ha,λh=>hb (by simp at h ⊢;rcases h with h|h|h;exact .inl h;exact absurd h A;exact .inr h)⟩) (qk4 O hs hi) _ H' _ w' hst' hk.2 hk.1
    rw[hlen,hdx]at this;exact this)
   split
   ·rename_i hw;rw[if_pos hw]at hps;exact .inl hps
   ·rename_i hw;rw[if_neg hw]at hps;exact hps
end
end
end Go.Gv
