/- A part of the framework and of the walks: V61 V62 V63 C67 W186 W192 W193. -/
import Derived.Test.YtphdikcommfnhaaGreatDoorGb38
import Derived.Test.YtphdikcommfnhaaGreatDoorGb20
import Derived.Test.YtphdikcommfnhaaGreatDoorGb18
import Derived.Test.YtphdikcommfnhaaGreatDoorGb21
import Derived.Test.YtphdikcommfnhaaGreatDoorGb37
import Derived.Test.YtphdikcommfnhaaGreatDoorGb28
set_option linter.unusedSimpArgs false
set_option linter.unusedVariables false
set_option linter.unusedSectionVars false
set_option maxRecDepth 100000
set_option maxHeartbeats 0

namespace Go.Gv
open Go.Proofs
def QI(m:Int)(s:St3):Prop:=0<=s.p/\s.p<=m/\∀i,0<=s.get i/\s.get i<=m
def qaS(m:Int)(R:St3->St3->Prop):Prop:=∀s t,R s t->QI m s->QI m t
theorem wE{m:Int}{R:St3->St3->Prop}(h:qaS m R):∀n:Nat,qaS m (Pow R n)
 | 0,s,t,e,hs=>by cases e;exact hs
 | n+1,s,t,⟨u,h1,h2⟩,hs=>wE h n _ _ h2 (h _ _ h1 hs)
theorem qfv{m:Int}{R:St3->St3->Prop}(h:qaS m R)(mn mx:Int):qaS m (xn R mn mx):=by
 rintro s t ⟨u,h1,n,_,h2⟩ hs
 exact wE (R:=BQ R) (fun s t q=>h s t q.1) n _ _ h2 (wE h _ _ _ h1 hs)
theorem qdG(r:Rn)(p:Pat)(s:St3):(EB r p s).p=s.p+1:=by
 unfold EB
 dsimp only
 split
 ·rfl
 ·generalize (gy r.lb fun z=>decide (z=p.lab)).toNat=i
  rcases i with _|_|i <;> rfl
theorem qbY(r:Rn)(p:Pat)(s:St3)(i:Nat):(EB r p s).get i=s.get i\/(EB r p s).get i=s.p+1:=by
 unfold EB
 dsimp only
 split
 ·rcases i with _|_|i <;> exact .inl rfl
 ·generalize (gy r.lb fun z=>decide (z=p.lab)).toNat=j
  rcases j with _|_|j <;> rcases i with _|_|i <;> first|exact .inl rfl|exact .inr rfl
mutual
theorem qw(r:Rn):∀p:Pat,qaS r.en (kU r p)
 | .mk op cond lab reg mn mx ks=>by
   intro s t h hs
   rw[kU]at h
   split at h
   ·obtain⟨h1,_,rfl⟩:=h
    obtain⟨a,b,c⟩:=hs
    refine⟨by rw[qdG];omega,by rw[qdG];omega,fun i=>?_⟩
    rcases qbY r (.mk op cond lab reg mn mx ks) s i with e|e
    ·rw[e];exact c i
    ·rw[e];omega
   ·split at h
    ·rw[h.2];exact hs
    ·split at h
     ·exact M5 r ks s t h hs
     ·split at h
      ·exact TJ r ks s t h hs
      ·exact qcf r ks mn mx s t h hs
theorem M5(r:Rn):∀ks:List Pat,qaS r.en (uT r ks)
 | []=>fun s t h hs=>by rw[uT]at h;rw[<-h];exact hs
 | k::ks=>fun s t h hs=>by
   rw[uT]at h
   obtain⟨u,h1,h2⟩:=h
   exact M5 r ks u t h2 (qw r k s u h1 hs)
theorem TJ(r:Rn):∀ks:List Pat,qaS r.en (uU r ks)
 | []=>fun s t h=>by rw[uU]at h;exact h.elim
 | k::ks=>fun s t h hs=>by
   rw[uU]at h
   rcases h with h|h
   ·exact qw r k s t h hs
   ·exact TJ r ks s t h hs
theorem qcf(r:Rn):∀ (ks:List Pat) (mn mx:Int),qaS r.en (DI r ks mn mx)
 | [],_,_=>fun s t h=>by rw[DI]at h;exact h.elim
 | k::_,mn,mx=>fun s t h hs=>by
   rw[DI]at h
   exact qfv (qw r k) mn mx s t h hs
end
theorem BB{R:St3->St3->Prop} :∀ {n:Nat} {s t:St3},Pow (BQ R) n s t->s.p+n<=t.p
 | 0,s,t,h=>by cases h;omega
 | n+1,s,t,⟨u,h1,h2⟩=>by
   have:=BB h2
   have:=h1.2
   omega
def AG(m:Int)(f:St3->List St3)(R:St3->St3->Prop):Prop:=∀s,QI m s->∀t,t∈f s↔R s t
def Vs(f:St3->List St3):Nat->St3->List St3
 | 0,s=>[s]
 | n+1,s=>(f s).flatMap (Vs f n)
theorem rC{m:Int}{f:St3->List St3}{R:St3->St3->Prop}(h:AG m f R)(k:qaS m R):∀n:Nat,AG m (Vs f n) (Pow R n)
 | 0,s,hs,t=>by simp[Vs,Pow,eq_comm]
 | n+1,s,hs,t=>by
   simp only[Vs,qtX,Pow]
   constructor
   ·rintro⟨u,h1,h2⟩
    have h1:=(h s hs u).1 h1
    exact⟨u,h1,(rC h k n u (k _ _ h1 hs) t).1 h2⟩
   ·rintro⟨u,h1,h2⟩
    exact⟨u,(h s hs u).2 h1,(rC h k n u (k _ _ h1 hs) t).2 h2⟩
def qfG(f:St3->List St3)(s:St3):List St3:=(f s).filter fun t=>decide (s.p < t.p)
theorem KI{m:Int}{f:St3->List St3}{R:St3->St3->Prop}(h:AG m f R):AG m (qfG f) (BQ R):=fun s hs t=>by
 unfold qfG BQ
 rw[qt9,h s hs t,decide_eq_true_iff]
def qe0(N:Nat)(f:St3->List St3)(mn mx:Int)(s:St3):List St3:=
 (Vs f mn.toNat s).flatMap fun u=>(List.range ((if mx < 0 then N else(mx -mn).toNat) +1)).flatMap fun n=>Vs (qfG f) n u
theorem Vc{N:Nat}{f:St3->List St3}{R:St3->St3->Prop}(h:AG N f R)(k:qaS N R)(mn mx:Int)(hm:0<=mx->mn<=mx):AG N (qe0 N f mn mx) (xn R mn mx):=fun s hs t=>by
 unfold qe0 xn
 simp only[qtX,qus]
 have ki:qaS N (BQ R):=fun s t q=>k s t q.1
 constructor
 ·rintro⟨u,h1,n,h2,h3⟩
  have h1:=(rC h k _ s hs u).1 h1
  have hu:=wE k _ _ _ h1 hs
  refine⟨u,h1,n,?_,(rC (KI h) ki n u hu t).1 h3⟩
  by_cases hx:mx < 0
  ·exact .inl hx
  ·rw[if_neg hx]at h2
   have:=hm (by omega)
   exact .inr (by omega)
 ·rintro⟨u,h1,n,h2,h3⟩
  have hu:=wE k _ _ _ h1 hs
  refine⟨u,(rC h k _ s hs u).2 h1,n,?_,(rC (KI h) ki n u hu t).2 h3⟩
  by_cases hx:mx < 0
  ·rw[if_pos hx]
   have:=BB h3
   have:=(wE ki _ _ _ h3 hu).2.1
   have:=hu.1
   omega
  ·rw[if_neg hx]
   rcases h2 with h2|h2
   ·exact absurd h2 hx
   ·omega
mutual
def PX(r:Rn):Pat->St3->List St3
 | .mk op cond lab reg mn mx ks=>fun s=>
   if op=1 then(if decide (s.p < r.en) && (Af r (.mk op cond lab reg mn mx ks) s==some true)then[EB r (.mk op cond lab reg mn mx ks) s]else[])
   else if op=2\/op=3 then(if SY r (.mk op cond lab reg mn mx ks) s.p then[s]else[])
   else if op=4 then PV r ks s
   else if op=5 then PW r ks s
   else Ue r ks mn mx s
def PV(r:Rn):List Pat->St3->List St3
 | []=>fun s=>[s]
 | k::ks=>fun s=>(PX r k s).flatMap (PV r ks)
def PW(r:Rn):List Pat->St3->List St3
 | []=>fun _=>[]
 | k::ks=>fun s=>PX r k s++PW r ks s
def Ue(r:Rn):List Pat->Int->Int->St3->List St3
 | []=>fun _ _ _=>[]
 | k::_=>fun mn mx s=>qe0 r.en.toNat (PX r k) mn mx s
end
mutual
def uy:Pat->List Pat
 | .mk op cond lab reg mn mx ks=> .mk op cond lab reg mn mx ks::wz ks
def wz:List Pat->List Pat
 | []=>[]
 | k::ks=>uy k++wz ks
end
def kg(C:Pat->Prop)(p:Pat):Prop:=∀q∈uy p,C q
theorem Fu:∀ {ks:List Pat} {k q:Pat},k∈ks->q∈uy k->q∈wz ks
 | a::ks,k,q,h,hq=>by
   rw[wz,qsZ]
   rcases qsY.1 h with rfl|h
   ·exact .inl hq
   ·exact .inr (Fu h hq)
theorem yY:∀ {ks:List Pat} {q:Pat},q∈wz ks->∃k∈ks,q∈uy k
 | [],q,h=>by rw[wz]at h;cases h
 | a::ks,q,h=>by
   rw[wz,qsZ]at h
   rcases h with h|h
   ·exact⟨a,by simp,h⟩
   ·obtain⟨k,h1,h2⟩:=yY h
    exact⟨k,by simp[h1],h2⟩
theorem Fv(p:Pat):p∈uy p:=by cases p;rw[uy];simp
theorem jH{C:Pat->Prop}{p:Pat}(h:kg C p):C p:=h p (Fv p)
theorem pS{C:Pat->Prop}{p k:Pat}(h:kg C p)(hk:k∈p.kids):kg C k:=fun q hq=>h q (by cases p;rw[uy];exact qu0 _ (Fu hk hq))
theorem Ty{C:Pat->Prop}{p:Pat}(h:C p)(hk:∀k∈p.kids,kg C k):kg C p:=fun q hq=>by
 cases p
 rw[uy]at hq
 rcases qsY.1 hq with rfl|hq
 ·exact h
 ·obtain⟨k,h1,h2⟩:=yY hq
  exact hk k h1 q h2
theorem rG{C D:Pat->Prop}{p:Pat}(h:kg C p)(hCD:∀q,C q->D q):kg D p:=fun q hq=>hCD q (h q hq)
def qaQ(q:Pat):Prop:=q.op=1\/q.op=2\/q.op=3\/q.op=4\/q.op=5\/(0<=q.mx->q.mn<=q.mx)
mutual
theorem zQ(r:Rn)(hr:0<=r.en):∀p:Pat,kg qaQ p->AG r.en (PX r p) (kU r p)
 | .mk op cond lab reg mn mx ks,h=>by
   have hs:=jH h
   have hk:∀k∈ks,kg qaQ k:=fun k hk=>pS h hk
   intro s h1 t
   rw[PX,kU]
   dsimp only
   by_cases e1:op=1
   ·rw[if_pos e1,if_pos e1]
    generalize Af r (.mk op cond lab reg mn mx ks) s=q
    by_cases e2:s.p < r.en
    ·by_cases e3:q=some true
     ·simp[e2,e3]
     ·simp[e2,e3]
    ·simp[e2]
   rw[if_neg e1,if_neg e1]
   by_cases e2:op=2\/op=3
   ·rw[if_pos e2,if_pos e2]
    cases SY r (.mk op cond lab reg mn mx ks) s.p <;> simp
   rw[if_neg e2,if_neg e2]
   by_cases e4:op=4
   ·rw[if_pos e4,if_pos e4];exact G9 r hr ks hk s h1 t
   rw[if_neg e4,if_neg e4]
   by_cases e5:op=5
   ·rw[if_pos e5,if_pos e5];exact Ha r hr ks hk s h1 t
   rw[if_neg e5,if_neg e5]
   refine Rd r hr ks mn mx hk ?_ s h1 t
   rcases hs with h|h|h|h|h|h
   ·exact absurd h e1
   ·exact absurd (.inl h) e2
   ·exact absurd (.inr h) e2
   ·exact absurd h e4
   ·exact absurd h e5
   ·exact h
theorem G9(r:Rn)(hr:0<=r.en):∀ks:List Pat,(∀k∈ks,kg qaQ k)->AG r.en (PV r ks) (uT r ks)
 | [],_=>fun s h t=>by rw[PV,uT];simp[eq_comm]
 | k::ks,h=>fun s hs t=>by
   have i1:=zQ r hr k (h k (by simp))
   have i2:=G9 r hr ks fun q hq=>h q (by simp[hq])
   rw[PV,uT]
   dsimp only
   rw[qtX]
   constructor
   ·rintro⟨u,h1,h2⟩
    have h1:=(i1 s hs u).1 h1
    exact⟨u,h1,(i2 u (qw r k _ _ h1 hs) t).1 h2⟩
   ·rintro⟨u,h1,h2⟩
    exact⟨u,(i1 s hs u).2 h1,(i2 u (qw r k _ _ h1 hs) t).2 h2⟩
theorem Ha(r:Rn)(hr:0<=r.en):∀ks:List Pat,(∀k∈ks,kg qaQ k)->AG r.en (PW r ks) (uU r ks)
 | [],_=>fun s h t=>by rw[PW,uU];simp
 | k::ks,h=>fun s hs t=>by
   have i1:=zQ r hr k (h k (by simp))
   have i2:=Ha r hr ks fun q hq=>h q (by simp[hq])
   rw[PW,uU]
   dsimp only
   rw[qsZ,i1 s hs t,i2 s hs t]
theorem Rd(r:Rn)(hr:0<=r.en):∀ (ks:List Pat) (mn mx:Int),(∀k∈ks,kg qaQ k)->(0<=mx->mn<=mx)->AG r.en (Ue r ks mn mx) (DI r ks mn mx)
 | [],_,_,_,_=>fun s h t=>by rw[Ue,DI];simp
 | k::ks,mn,mx,h,hm=>fun s hs t=>by
   have i1:=zQ r hr k (h k (by simp))
   rw[Ue,DI]
   have e:((r.en.toNat:Nat):Int)=r.en:=by omega
   refine Vc (N:=r.en.toNat) (f:=PX r k) (R:=kU r k) (by rw[e];exact i1) (by rw[e];exact qw r k) mn mx hm s (by rw[e];exact hs) t
end
end Go.Gv

namespace Go.Gv
def eU:List Int->List Int->Int
 | [], []=>0
 | [],_::_=> -1
 | _::_, []=>1
 | a::x,b::y=>if xY a b≠0 then xY a b else eU x y
def mr(a b:Match):Int:=eU (a.b::a.e::a.lbs) (b.b::b.e::b.lbs)
theorem gG(a b:Int):(a < b/\xY a b= -1)\/(a=b/\xY a b=0)\/(b < a/\xY a b=1):=by
 unfold xY
 by_cases h:a < b
 ·exact .inl ⟨h,if_pos h⟩
 ·by_cases h2:b < a
  ·exact .inr (.inr ⟨h2,by rw[if_neg h,if_pos h2]⟩)
  ·exact .inr (.inl ⟨by omega,by rw[if_neg h,if_neg h2]⟩)
theorem Z0(a b:Int):xY b a= -xY a b:=by
 rcases gG a b with⟨h,e⟩|⟨h,e⟩|⟨h,e⟩ <;> rcases gG b a with⟨h',e'⟩|⟨h',e'⟩|⟨h',e'⟩ <;> first|(rw[e,e'];done)|(rw[e,e'];rfl)|omega
theorem Lr{a b:Int} :xY a b=0↔a=b:=by
 rcases gG a b with⟨h,e⟩|⟨h,e⟩|⟨h,e⟩ <;> rw[e] <;> constructor <;> intro h' <;> omega
theorem Qb:∀x y:List Int,eU y x= -eU x y
 | [], []=>rfl
 | [],_::_=>rfl
 | _::_, []=>rfl
 | a::x,b::y=>by
   unfold eU
   have h:=Z0 a b
   by_cases e:xY a b=0
   ·rw[if_neg (by rw[h,e];simp),if_neg (by simp[e])]
    exact Qb x y
   ·rw[if_pos (by rw[h];omega),if_pos e,h]
theorem ET:∀ {x y:List Int},eU x y=0↔x=y
 | [], []=>by simp[eU]
 | [],_::_=>by simp[eU]
 | _::_, []=>by simp[eU]
 | a::x,b::y=>by
   unfold eU
   by_cases e:xY a b=0
   ·rw[if_neg (by simp[e]),ET,Lr.1 e]
    simp
   ·rw[if_pos e]
    constructor
    ·intro h;exact absurd h e
    ·intro h;injection h with h;exact absurd (Lr.2 h) e
theorem SN(x y:List Int):eU x y= -1\/eU x y=0\/eU x y=1:=by
 induction x generalizing y with
 | nil=>cases y <;> simp[eU]
 | cons a x ih=>
   cases y with
   | nil=>simp[eU]
   | cons b y=>
     unfold eU
     split
     ·rcases gG a b with⟨_,e⟩|⟨_,e⟩|⟨_,e⟩ <;> rw[e] <;> simp
     ·exact ih y
theorem Jf:∀ {x y z:List Int},eU x y < 0->eU y z < 0->eU x z < 0
 | [], [],_,h,_=>by simp[eU]at h
 | [],_::_, [],_,h=>by simp[eU]at h
 | [],_::_,_::_,_,_=>by simp[eU]
 | _::_, [],_,h,_=>by simp[eU]at h
 | _::_,_::_, [],_,h=>by simp[eU]at h
 | a::x,b::y,c::z,h1,h2=>by
   unfold eU at h1 h2 ⊢
   rcases gG a b with⟨q1,e1⟩|⟨q1,e1⟩|⟨q1,e1⟩ <;> rcases gG b c with⟨q2,e2⟩|⟨q2,e2⟩|⟨q2,e2⟩ <;> rcases gG a c with⟨q3,e3⟩|⟨q3,e3⟩|⟨q3,e3⟩ <;> simp only[e1,e2,e3]at h1 h2 ⊢ <;> first|omega|(exact Jf (by simpa using h1) (by simpa using h2))|(simp at h1;done)|(simp at h2;done)|skip
def NX(a b:Match):Prop:=mr a b < 0
theorem rI{a b c:Match}(h1:NX a b)(h2:NX b c):NX a c:=Jf h1 h2
theorem zV(a:Match):¬NX a a:=fun h=>by
 have:mr a a=0:=ET.2 rfl
 unfold NX at h
 omega
theorem jY{a b:Match} :mr a b=0↔a=b:=by
 unfold mr
 rw[ET]
 obtain⟨a1,a2,a3⟩:=a
 obtain⟨b1,b2,b3⟩:=b
 simp
theorem ZZ(a b:Match):mr b a= -mr a b:=Qb _ _
theorem Da{a b:Match}(h:¬NX a b):a=b\/NX b a:=by
 rcases SN (a.b::a.e::a.lbs) (b.b::b.e::b.lbs)with e|e|e
 ·exact absurd (show mr a b < 0 by unfold mr;omega) h
 ·exact .inl (jY.1 e)
 ·right
  unfold NX
  rw[ZZ a b]
  show -eU _ _ < 0
  omega
def fR(l:List Match):Prop:=l.Pairwise NX
theorem zR:∀ {l l':List Match},fR l->fR l'->(∀x,x∈l↔x∈l')->l=l'
 | [], [],_,_,_=>rfl
 | [],b::l',_,_,h=>by have:=(h b).2 (by simp);cases this
 | a::l, [],_,_,h=>by have:=(h a).1 (by simp);cases this
 | a::l,b::l',h1,h2,h=>by
   have h1':=quN.1 h1
   have h2':=quN.1 h2
   have e:a=b:=by
    rcases qsY.1 ((h a).1 (by simp))with e|m
    ·exact e
    ·rcases qsY.1 ((h b).2 (by simp))with e|m'
     ·exact e.symm
     ·exact absurd (rI (h1'.1 b m') (h2'.1 a m)) (zV a)
   subst e
   rw[zR h1'.2 h2'.2 fun x=>?_]
   constructor
   ·intro m
    rcases qsY.1 ((h x).1 (by simp[m]))with e|m'
    ·subst e;exact absurd (h1'.1 _ m) (zV _)
    ·exact m'
   ·intro m
    rcases qsY.1 ((h x).2 (by simp[m]))with e|m'
    ·subst e;exact absurd (h2'.1 _ m) (zV _)
    ·exact m'
end Go.Gv

namespace Go.Gv
open Go.Proofs
def U9(c:Corpus)(i:Int):Option ti:=c.texts.find? fun t=>decide (t.b<=i) && decide (i < t.e)
def Ag(c:Corpus)(lb:List B)(t:ti):Rn:=⟨c,lb,t.b,min t.e c.toks.length⟩
def FW(i:Int):St3:=⟨i,0,0,0⟩
def NN(c:Corpus)(lb:List B)(p:Pat)(m:Match):Prop:=0<=m.b/\m.b < c.toks.length/\∃t,U9 c m.b=some t/\∃s,kU (Ag c lb t) p (FW m.b) s/\m.b < s.p/\m.e=s.p/\m.lbs=NG (Ag c lb t) s
def qaT(c:Corpus)(lb:List B)(p:Pat)(i:Int)(l:List Match):Prop:=fR l/\∀m,m∈l↔m.b=i/\NN c lb p m
def NP(c:Corpus)(lb:List B)(p:Pat)(l:List Match):Prop:=fR l/\∀m,m∈l↔NN c lb p m
theorem qcn{c:Corpus}{lb:List B}{p:Pat}{l l':List Match}(h:NP c lb p l)(h':NP c lb p l'):l=l':=zR h.1 h'.1 fun x=>(h.2 x).trans (h'.2 x).symm
theorem qiM{a b:Match}(h:a.b < b.b):NX a b:=by
 unfold NX mr eU
 rcases gG a.b b.b with⟨_,e⟩|⟨h2,_⟩|⟨h2,_⟩
 ·rw[e];simp
 ·omega
 ·omega
def QJ(c:Corpus)(lb:List B)(p:Pat)(k:Int)(l:List Match):Prop:=fR l/\∀m,m∈l↔m.b < k/\NN c lb p m
theorem Wc(c:Corpus)(lb:List B)(p:Pat):QJ c lb p 0 []:=⟨List.Pairwise.nil,fun m=>⟨fun h=>(by cases h),fun h=>(by have:=h.2.1;omega)⟩⟩
theorem Wd{c:Corpus}{lb:List B}{p:Pat}{k:Int}{l l':List Match}(h:QJ c lb p k l)(h':qaT c lb p k l'):QJ c lb p (k+1) (l++l'):=by
 refine⟨quq.2 ⟨h.1,h'.1,fun a ha b hb=>qiM ?_⟩,fun m=>?_⟩
 ·have:=((h.2 a).1 ha).1
  have:=((h'.2 b).1 hb).1
  omega
 ·rw[qsZ,h.2,h'.2]
  constructor
  ·rintro(⟨h1,h2⟩|⟨h1,h2⟩)
   ·exact⟨by omega,h2⟩
   ·exact⟨by omega,h2⟩
  ·rintro⟨h1,h2⟩
   by_cases e:m.b=k
   ·exact .inr ⟨e,h2⟩
   ·exact .inl ⟨by omega,h2⟩
theorem Y0{c:Corpus}{lb:List B}{p:Pat}{l:List Match}(h:QJ c lb p c.toks.length l):NP c lb p l:=⟨h.1,fun m=>(h.2 m).trans ⟨fun h=>h.2,fun h=>⟨h.2.1,h⟩⟩⟩
theorem Uw(r:Rn)(s:St3):(NG r s).length=r.lb.length:=by simp[NG]
theorem O3:∀ (n:Nat) (l:List Nat),l.Nodup->(∀x∈l,x < n)->l.length<=n
 | 0, [],_,_=>qs2 _
 | 0,x::l,_,h=>absurd (h x (by simp)) (Nat.not_lt_zero _)
 | n+1,l,hn,h=>by
   have ih:=O3 n (l.erase n) (hn.erase n) fun x hx=>by
    have h1:=(List.Nodup.mem_erase_iff hn).1 hx
    have:=h x h1.2
    omega
   have h2:l.length<=(l.erase n).length+1:=by
    rw[List.length_erase]
    split <;> omega
   omega
theorem K1{α:Type}{l:List α}{f:α->Nat}{n:Nat}(h1:l.Nodup)(h2:∀x∈l,f x < n)(h3:∀x∈l,∀y∈l,f x=f y->x=y):l.length<=n:=by
 have hn:∀ {l:List α},l.Nodup->(∀x∈l,∀y∈l,f x=f y->x=y)->(l.map f).Nodup:=fun {l} h1 h3=>by
  induction l with
  | nil=>exact quP
  | cons a l ih=>
    rw[qtk,quK]
    have h4:=quK.1 h1
    refine⟨fun hm=>?_,ih h4.2 fun x hx y hy=>h3 x (by simp[hx]) y (by simp[hy])⟩
    obtain⟨y,hy,e⟩:=qs7.1 hm
    have:=h3 y (by simp[hy]) a (by simp) e
    subst this
    exact h4.1 hy
 have:=O3 n (l.map f) (hn h1 h3) fun x hx=>by
  obtain⟨y,hy,rfl⟩:=qs7.1 hx
  exact h2 y hy
 simpa using this
def VF(m:Nat)(s:St3):Nat:=((s.p.toNat*m+s.b0.toNat) *m+s.b1.toNat) *m+s.b2.toNat
end Go.Gv

namespace Go.Gv
open Go.Proofs
def pJ:CC:=by refine(fun(_:G.ap (G.gn Tryz.prog Tryz.f41 [4,3,3057036,1060060] { bx:=[41],cu:=[6],ke:=[36,990] })=?c)=>?c) ?h;case h=>conv=>lhs; (conv=>arg 1;reduce);dsimp only[G.ap]
def pj:List aj:=[.tmp 6]
theorem Ki:aq Tryz.prog rp [4,3,3057036,1060060] pJ pj 64:=ai mixed (by kernel_rfl)
def oV:CC:=by refine(fun(_:G.ap (G.gn Tryz.prog Tryz.f19 [2,3] {})=?c)=>?c) ?h;case h=>conv=>lhs; (conv=>arg 1;reduce);dsimp only[G.ap]
def ol:List aj:=[.tmp 4]
theorem Es:aq Tryz.prog eb [2,3] oV ol 22:=ai mixed (by kernel_rfl)
def oU:CC:=by refine(fun(_:G.ap (G.gn Tryz.prog Tryz.f15 [2,3] {})=?c)=>?c) ?h;case h=>conv=>lhs; (conv=>arg 1;reduce);dsimp only[G.ap]
def oj:List aj:=[.tmp 4, .tmp 5]
theorem Er:aq Tryz.prog eY [2,3] oU oj 33:=ai mixed (by kernel_rfl)
def ix:CC:=by refine(fun(_:G.ap (G.gn Tryz.prog Tryz.f48 [] {})=?c)=>?c) ?h;case h=>conv=>lhs; (conv=>arg 1;reduce);dsimp only[G.ap]
def io:List aj:=[.tmp 4]
theorem xN:aq Tryz.prog fk [] ix io 36:=ai mixed (by kernel_rfl)
end Go.Gv

namespace Go.Gv
open Go.Proofs
open Cod (enc dec)
variable {S S0:Nat->Spc}
theorem GJ(a b:Int)(x y:List Int):eU (a::x) (b::y)=if xY a b≠0 then xY a b else eU x y:=rfl
abbrev RV:Spc:=bp (a2 (List Int) (List Int)) (fun _=>True) (enc (X:=Int)) fun x y=>y=eU x.1 x.2
theorem qey(h1:S dV=fe):ar ix io S (a2 (List Int) (List Int)) (fun _=>True) (enc (X:=Int)) fun x y=>y=eU x.1 x.2:=by
 rintro⟨l,m⟩ -
 simp[ix,io, -Bool.forall_bool, -Bool.exists_bool]
 intro hl
 refine ak (X:=Unit) [0,1,9] [] l.length (fun k _=>eU l m=eU (l.drop k) (m.drop k)/\k<=m.length) (fun _=>[]) (fun _=>[]) () (by simp) (by simp) (by omega) (by simp) (by simp) (by simp) (by simp) (by simp) ?_ ?_
 ·intro k _ hk ⟨hP,hkm⟩
  obtain⟨x,hx⟩:∃x,l[k]? =some x:=⟨_,qsU hk⟩
  obtain⟨_,hgx⟩:=qsT.1 hx
  have hd:l.drop k=x::l.drop (k+1):=by rw[<-hgx];exact qtr hk
  by_cases hm:k < m.length
  ·obtain⟨y,hy⟩:∃y,m[k]? =some y:=⟨_,qsU hm⟩
   obtain⟨_,hgy⟩:=qsT.1 hy
   have hd2:m.drop k=y::m.drop (k+1):=by rw[<-hgy];exact qtr hm
   rw[hd,hd2,GJ]at hP
   have hm2:¬ (m.length:Int)<=k:=by omega
   have hm3:¬m.length<=k:=by omega
   simp[hk,hx,hgx,hy,hgy,hm,hm2,hm3,h1, -Bool.forall_bool, -Bool.exists_bool]
   refine fun hlm=>⟨fun h=>?_,fun h=>?_⟩
   ·rw[if_pos h]at hP;exact hP.symm
   ·rw[if_neg (by simp[h])]at hP;exact⟨hP,by omega⟩
  ·have hm2:(m.length:Int)<=k:=by omega
   have hm3:m.length<=k:=by omega
   have e:m.drop k=[]:=qtQ hm3
   rw[hd,e]at hP
   simp[hk,hx,hgx,hm2,hm3, -Bool.forall_bool, -Bool.exists_bool]
   intro _
   rw[hP];rfl
 ·intro _ ⟨hP,hkm⟩
  rw[qtR]at hP
  simp[-Bool.forall_bool, -Bool.exists_bool]
  intro _ _
  constructor
  ·intro h
   cases hd:m.drop l.length with
   | nil=>have:=congrArg List.length hd;simp at this;omega
   | cons y r=>rw[hd]at hP;rw[hP];rfl
  ·intro h
   have e:m.drop l.length=[]:=qtQ (by omega)
   rw[e]at hP;rw[hP];rfl
abbrev s_cmpM:Spc:=bp (a2 Match Match) (fun _=>True) (enc (X:=Int)) fun x y=>y=mr x.1 x.2
theorem qex(h1:S dV=fe)(h2:S fk=RV)(h3:S rr=vT):ar oV ol S (a2 Match Match) (fun _=>True) (enc (X:=Int)) fun x y=>y=mr x.1 x.2:=by
 rintro⟨a,b⟩ -
 simp[oV,ol,h1,h2,h3, -Bool.forall_bool, -Bool.exists_bool]
 rw[mr,GJ,GJ]
 generalize eU a.lbs b.lbs=z
 by_cases e1:xY a.b b.b=0
 ·by_cases e2:xY a.e b.e=0
  ·by_cases e3:z=0
   ·simp[e1,e2,e3]
   ·simp[e1,e2,List.find?,e3]
  ·simp[e1,List.find?,e2]
 ·simp[List.find?,e1]
def qhV(c:Corpus)(i:Int):Int:=gy c.texts fun t=>decide (t.b<=i) && decide (i < t.e)
abbrev Ef:Spc:=bp (a2 Corpus Int) (fun _=>True) (enc (X:=Int)) fun x y=>y=qhV x.1 x.2
theorem U0:ar pb ou S (a2 Corpus Int) (fun _=>True) (enc (X:=Int)) fun x y=>y=qhV x.1 x.2:=by
 rintro⟨c,i⟩ -
 simp[pb,ou, -Bool.forall_bool, -Bool.exists_bool]
 intro hl
 refine ak (X:=Unit) [1,8] [] c.texts.length (fun k _=>∀t∈c.texts.take k,(decide (t.b<=i) && decide (i < t.e))=false) (fun _=>[]) (fun _=>[]) () (by simp) (by simp) (by omega) (by simp) (by simp) (by simp) (by simp) (by simp) ?_ ?_
 ·intro k _ hk hP
  obtain⟨x,hx⟩:∃x,c.texts[k]? =some x:=⟨_,qsU hk⟩
  obtain⟨_,hgx⟩:=qsT.1 hx
  have hno:(decide (x.b<=i) && decide (i < x.e))=false->∀t∈c.texts.take (k+1),(decide (t.b<=i) && decide (i < t.e))=false:=fun h t ht=>by
   rw[cO hx]at ht
   rcases qsZ.1 ht with ht|ht
   ·exact hP t ht
   ·simp at ht;subst ht;exact h
  by_cases e1:x.b<=i
  ·by_cases e2:i < x.e
   ·simp[hk,hx,hgx,e1,e2, -Bool.forall_bool, -Bool.exists_bool]
    exact(tH hx (by simp[e1,e2]) hP).symm
   ·simp[hk,hx,hgx,e1,e2, -Bool.forall_bool, -Bool.exists_bool]
    have:=hno (by simp[e2])
    simpa using this
  ·simp[hk,hx,hgx,e1, -Bool.forall_bool, -Bool.exists_bool]
   have:=hno (by simp[e1])
   simpa using this
 ·intro _ hP
  simp[-Bool.forall_bool, -Bool.exists_bool]
  exact(mf (by simpa using hP)).symm
theorem Xt{c:Corpus}{i:Int} :(qhV c i= -1/\U9 c i=none)\/ ∃k t,qhV c i=(k:Nat)/\c.texts[k]? =some t/\U9 c i=some t:=by
 unfold qhV U9
 generalize hp:(fun t:ti=>decide (t.b<=i) && decide (i < t.e))=p
 generalize c.texts=l
 rcases BC p l with⟨h1,h2⟩|⟨k,x,h1,h2,h3,h4⟩
 ·refine .inl ⟨h1,qvw.2 fun x hx=>by simp[h2 x hx]⟩
 ·refine .inr ⟨k,x,h1,h2,?_⟩
  have e:l=l.take k++x::l.drop (k+1):=by
   obtain⟨hk,hg⟩:=qsT.1 h2
   rw[<-hg,<-qtr hk,qtx]
  rw[e,List.find?_append,qvw.2 fun x hx=>by simp[h4 x hx]]
  simp[h3]
end Go.Gv

namespace Go.Gv
open Go.Proofs
open Cod (enc dec)
variable {S S0:Nat->Spc}
def Dl(a:Match):Prop:=(2+a.lbs.length) *8<=140737488355328
abbrev RC:Spc:=bp (a2 Match Match) (fun x=>Dl x.1/\Dl x.2) (enc (X:=Int)) fun x y=>y=mr x.1 x.2
theorem WF{x y:List Int}{k:Nat}{a b:Int}(hx:x[k]? =some a)(hy:y[k]? =some b)(h:eU x y=eU (x.drop k) (y.drop k)):eU x y=if a=b then eU (x.drop (k+1)) (y.drop (k+1))else if a < b then -1 else 1:=by
 obtain⟨hk,rfl⟩:=qsT.1 hx
 obtain⟨hk2,rfl⟩:=qsT.1 hy
 rw[h,qtr hk,qtr hk2,GJ]
 rcases gG x[k] y[k]with⟨q,e⟩|⟨q,e⟩|⟨q,e⟩
 ·rw[e,if_pos (by decide),if_neg (by omega),if_pos q]
 ·rw[e,if_neg (by decide),if_pos q]
 ·rw[e,if_pos (by decide),if_neg (by omega),if_neg (by omega)]
theorem qel:ar sM rY S (a2 Match Match) (fun x=>Dl x.1/\Dl x.2) (enc (X:=Int)) fun x y=>y=mr x.1 x.2:=by
 rintro⟨a,b⟩ ⟨ha,hb⟩
 have ha:(2+a.lbs.length) *8<=140737488355328:=ha
 have hb:(2+b.lbs.length) *8<=140737488355328:=hb
 simp[sM,rY, -Bool.forall_bool, -Bool.exists_bool]
 have hbd:∀n:Nat,(2+n) *8<=140737488355328->2+n<=140737488355328:=fun n h=>by omega
 refine⟨ha,hbd _ ha,fun v=>⟨hb,hbd _ hb,fun v1=>?_⟩⟩
 have hlx:(a.b::a.e::a.lbs).length<=140737488355328:=by have:=hbd _ ha;simp;omega
 have hly:(b.b::b.e::b.lbs).length<=140737488355328:=by have:=hbd _ hb;simp;omega
 have hcm:mr a b=eU (a.b::a.e::a.lbs) (b.b::b.e::b.lbs):=rfl
 generalize hX:a.b::a.e::a.lbs=x at hlx hcm
 generalize hY:b.b::b.e::b.lbs=y at hly hcm
 refine av (X:=Nat) [5,6] [] (fun k=>k<=x.length/\k<=y.length/\eU x y=eU (x.drop k) (y.drop k)) (fun k=>[(7, .v (.int .i64 k))]) (fun _=>[(12, .row v ig 1 (x.map enc)),(20, .row v1 ig 1 (y.map enc))]) (fun k=>x.length -k) 0 ⟨by omega,by omega,rfl⟩ (by simp) (by simp[<-hX,<-hY]) ?_
 rintro k ⟨g1,g2,g3⟩
 have hnil:∀z:List Int,eU [] z=if z.length=0 then 0 else -1:=fun z=>by cases z <;> simp[eU]
 have hnil2:∀z:List Int,eU z []=if z.length=0 then 0 else 1:=fun z=>by cases z <;> simp[eU]
 have hend:(x.length<=k\/y.length<=k)->(x.length < y.length-> -1=mr a b)/\(y.length < x.length->1=mr a b)/\(x.length=y.length->0=mr a b):=fun h=>by
  rw[hcm,g3]
  rcases h with h|h
  ·have e:x.drop k=[]:=qtQ h
   rw[e,hnil,qtP]
   refine⟨fun h=>by rw[if_neg (by omega)],fun h=>by omega,fun h=>by rw[if_pos (by omega)]⟩
  ·have e:y.drop k=[]:=qtQ h
   rw[e,hnil2,qtP]
   refine⟨fun h=>by omega,fun h=>by rw[if_neg (by omega)],fun h=>by rw[if_pos (by omega)]⟩
 simp[-Bool.forall_bool, -Bool.exists_bool]
 by_cases hk:k < x.length
 ·have hk':(k:Int) < x.length:=by omega
  by_cases hk2:k < y.length
  ·have hk2':(k:Int) < y.length:=by omega
   obtain⟨p,hp⟩:∃p,x[k]? =some p:=⟨_,qsU hk⟩
   obtain⟨q,hq⟩:∃q,y[k]? =some q:=⟨_,qsU hk2⟩
   obtain⟨_,hgp⟩:=qsT.1 hp
   obtain⟨_,hgq⟩:=qsT.1 hq
   have hst:=WF hp hq g3
   simp[hk,hk2,hk',hk2',hp,hq,hgp,hgq, -Bool.forall_bool, -Bool.exists_bool]
   refine fun _=>⟨fun _=>⟨⟨fun hne=>⟨fun hlt=>?_,fun hge=>?_⟩,fun he=>⟨by simp only[InR];omega,k+1,⟨by omega,by omega,by rw[hst,if_pos he]⟩,by omega,by omega⟩⟩,fun h=>by omega⟩,fun h=>by omega⟩
   ·rw[hcm,hst,if_neg hne,if_pos hlt]
   ·rw[hcm,hst,if_neg hne,if_neg (by omega)]
  ·have hk2':¬ (k:Int) < y.length:=by omega
   simp[hk,hk2,hk',hk2', -Bool.forall_bool, -Bool.exists_bool]
   have he:=hend (.inr (by omega))
   exact fun _=>⟨fun _ _ _ _=>⟨fun _ _ _=>⟨he.1,fun h=>he.2.1 (by omega)⟩,fun h=>he.2.2 (by omega)⟩,fun h=>by omega⟩
 ·have hk':¬ (k:Int) < x.length:=by omega
  simp[hk,hk', -Bool.forall_bool, -Bool.exists_bool]
  have he:=hend (.inl (by omega))
  exact fun _ _ _ _=>⟨fun _ _ _=>⟨he.1,fun h=>he.2.1 (by omega)⟩,fun h=>he.2.2 (by omega)⟩
abbrev Mj:Spc:=bp (a2 (List Match) (List Match)) (fun x=>(∀m∈x.1,Dl m)/\∀m∈x.2,Dl m) (enc (X:=Bool)) fun x y=>(y=true↔x.1=x.2)
theorem qba(h1:S pr=RC):ar tX tC S (a2 (List Match) (List Match)) (fun x=>(∀m∈x.1,Dl m)/\∀m∈x.2,Dl m) (enc (X:=Bool)) fun x y=>(y=true↔x.1=x.2):=by
 rintro⟨a,b⟩ ⟨ha,hb⟩
 have ha:∀m∈a,Dl m:=ha
 have hb:∀m∈b,Dl m:=hb
 by_cases hl:a.length=b.length
 ·simp[tX,tC,hl, -Bool.forall_bool, -Bool.exists_bool]
  intro hla
  refine ak (X:=Unit) [0,1] [] b.length (fun k _=>a.take k=b.take k) (fun _=>[]) (fun _=>[]) () (by simp) (by simp[hl]) (by omega) (by simp) (by simp) (by simp) (by simp) (by simp) ?_ ?_
  ·rintro k ⟨⟩ hk hP
   obtain⟨x,hx⟩:∃x,a[k]? =some x:=⟨_,qsU (by omega)⟩
   obtain⟨y,hy⟩:∃y,b[k]? =some y:=⟨_,qsU hk⟩
   obtain⟨_,hgx⟩:=qsT.1 hx
   obtain⟨_,hgy⟩:=qsT.1 hy
   have hfx:=ha x (qsW hx)
   have hfy:=hb y (qsW hy)
   simp[hk,hl,hx,hy,hgx,hgy,h1,hfx,hfy, -Bool.forall_bool, -Bool.exists_bool]
   refine⟨fun h e=>?_,fun h=>?_⟩
   ·subst e
    rw[hx]at hy
    cases hy
    exact h (jY.2 rfl)
   ·rw[cO hx,cO hy,hP,jY.1 h]
  ·rintro⟨⟩ hP
   simp[-Bool.forall_bool, -Bool.exists_bool]
   rw[<-hl,qtD,hl,qtD]at hP
   exact hP
 ·simp[tX,tC,hl, -Bool.forall_bool, -Bool.exists_bool]
  exact fun _ _=>⟨fun _ e=>hl (by rw[e]),fun h=>absurd h (by omega)⟩
end Go.Gv

namespace Go.Gv
open Go.Proofs
open Cod (enc dec)
variable {S S0:Nat->Spc}
def abT:B:=⟨#[97,98,97,98]⟩
def plC:Corpus:=⟨[⟨⟨#[119,111,114,100]⟩,false⟩], [[⟨#[97]⟩], [⟨#[98]⟩], [⟨#[97]⟩], [⟨#[98]⟩]], [⟨⟨#[116]⟩,0,4, []⟩], [], [], [], []⟩
abbrev Mk:Spc:=bp (a1 B) (fun s=>s=abT) (enc (X:=Corpus)) fun _ y=>y=plC
def qof:D:= .list 4 [.agg [.v (.string ⟨#[116]⟩), .v (.int .i64 0), .v (.int .i64 4), .v (.slice none 0 0)]]
theorem Qw:abT.size=4:=rfl
theorem qdg:uO abT=true:=rfl
theorem JT:ar ta su S (a1 B) (fun s=>s=abT) (enc (X:=Corpus)) fun _ y=>y=plC:=by
 rintro s rfl
 simp[ta,su, -Bool.forall_bool, -Bool.exists_bool]
 intro b2 _ b3 b13
 refine rA (X:=Nat×Value) [0,2,3,13] [2] [] [] [] [] (fun x=>x.1<=4) (fun _=>[]) (fun x=>[(3, .box b3 [enc plC.attrs, .own 26 x.2,qof, .v (.slice none 0 0), .v (.slice none 0 0), .v (.slice none 0 0), .v (.slice none 0 0)]),(13, .iter b13 abT x.1),(26, .row x.2 lW 1 ((plC.toks.take x.1).map enc))]) (fun x=>4 -x.1) (0, .slice none 0 0) [3,13,26] (fun _=>rfl) (by decide) (by decide) (by simp) (by simp) ?_ ?_
 ·simp[isNilRow,plC,qof,Qw]
  exact⟨.nilown 26, .inl rfl⟩
 rintro⟨p,v⟩ hp
 simp only at hp
 have hsz:=Qw
 by_cases h4:p=4
 ·subst h4
  simp[hsz]
  refine cV plC ?_ rfl
  have h:∀d,dec (X:=List ti) d=some plC.texts->∀H,FrzTo H d (enc plC.texts):=fun d hd H=>qcD (Cod.le (X:=List ti) d plC.texts hd)
  rw[show enc plC= .agg [enc plC.attrs,enc plC.toks,enc plC.texts,enc plC.regs,enc plC.nodes,enc plC.heads,enc plC.rels]from rfl]
  simp only[da]
  exact⟨.same _,iX lW (by simp;rfl),h _ (by simp[qof,plC]) _, .nil _, .nil _, .nil _, .nil _, .same _⟩
 ·have hlt:p < 4:=by omega
  obtain⟨c,hc,hc1,hc2⟩:=Fb qdg (p:=p) (by rw[hsz];omega)
  have hm:min p plC.toks.length=p:=by rw[show plC.toks.length=4 from rfl];omega
  have hex:(plC.toks.take p) ++ [[abT.extract p (p+1)]]=plC.toks.take (p+1):=by
   rcases p with _|_|_|_|p
   ·rfl
   ·rfl
   ·rfl
   ·rfl
   ·omega
  simp[hsz,hlt,hc2,hm]
  have hx2:List.take p (List.map enc plC.toks) ++ [D.list 1 [.v (.string (abT.extract p (p+1)))]]=List.take (p+1) (List.map enc plC.toks):=by
   rw[<-List.map_take,<-List.map_take,<-hex,qum]
   rfl
  refine⟨by simp only[InR];omega,by omega,by omega,by omega,by omega,fun w=>⟨p+1,by omega,⟨w, .inl (.inl rfl), .inl (.inl rfl), .inl ?_⟩,by omega⟩⟩
  rw[hx2]
  exact .inl rfl
end Go.Gv
