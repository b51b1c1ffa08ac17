/- S8 -/
import Derived.ChangeKeysEq
import Derived.Maps.RangeRun
import Derived.MapKept
import Derived.Test.YtnffegdacbdhmaaGreatDoorGe02
set_option linter.all false
namespace Go.Gv
def qwu(w:World):KK->Value->Prop
 | .int k,x=>∃n,x= .int k n
 | .str,x=>∃s,x= .string s
 | .bool,x=>∃b,x= .bool b
 | .ptr,x=>x= .pointer none\/ ∃b off,x= .pointer (some ⟨b,off,none⟩)/\PlainB w b
def KVl(w:World):List KK->List Value->Prop
 | [], []=>True
 |k::ks,x::xs=>qwu w k x/\KVl w ks xs
 | _,_=>False
def M2(ka:Bool)(xs:List Value):Value:=if ka then .agg xs.toArray else xs.headD undef
def KVl.length{w:World} :∀{ks:List KK} {xs:List Value},KVl w ks xs->xs.length=ks.length
 | [], [],_=>rfl
 | _::ks,_::xs,h=>by simp[KVl.length h.2]
 | [],_::_,h=>h.elim
 | _::_, [],h=>h.elim
def KVl.split{w:World} :∀{d a:List KK} {xs:List Value},KVl w (d++a) xs->∃b c,xs=b++c/\KVl w d b/\KVl w a c
 | [],a,xs,h=>⟨[],xs,rfl,trivial,h⟩
 | k::d,a,x::xs,h=>by
   obtain⟨b,c,rfl,h1,h2⟩:=KVl.split h.2;exact⟨x::b,c,rfl,⟨h.1,h1⟩,h2⟩
 | _::_,_, [],h=>h.elim
section
variable {P:Program}{w:World}
def Si{t:TypeId}{n:Nat}(h:cF P t=some n):∃i,P.info? t=some i/\P.cellsOf t=n:=by
 unfold cF at h;cases a:P.info? t with
 |none=>grind
 | some i=>
   rw[a]at h;simp at h;exact⟨i,rfl,by grind [Program.cellsOf]⟩
def AG{n:Nat}{t:TypeId}{ks:List KK}(h:M3 P n t=some ks):∃ka,il P t=some ka/\(ka=false->∃k,ks=[k]):=by
 cases n with
 |zero=>cases h
 | succ n=>
   unfold M3 at h;unfold il;split at h
   ·rename_i k a;rw[a];grind
   ·rename_i a;rw[a];grind
   ·rename_i a;rw[a];grind
   ·rename_i e a;rw[a];grind
   simp_all;simp_all;grind
def vT{e:TypeId}{ka:Bool}(a:il P e=some ka){pre mid post:List Value}(hs:cF P e=some mid.length)(h1:ka=false->mid.length=1):
 (part e (pre++ (mid++post)).toArray pre.length).run P w= .ok (M2 ka mid) w:=by
 cases ka with
 | true=>
   simp_all [part,M2,vU,be]
 | false=>
   obtain⟨x,rfl⟩:=qG4.1 (h1 rfl);have b:(pre++ ([x] ++post))[pre.length]? =some x:=by simp
   rw[OO a b];rfl
theorem U5{b c o p:Nat}(h1:PlainB w b)(h2:PlainB w c):(sameAddr ⟨b,o,none⟩ ⟨c,p,none⟩).run P w= .ok ((⟨b,o,none⟩:Addr)==⟨c,p,none⟩) w:=by
 obtain⟨xs,el,h1⟩:=h1;obtain⟨l,j,h2⟩:=h2;have fr:∀(b o:Nat) (xs:Array Value) (el:Nat),w.heap[b]? =some (.cells xs el (0,0))->w.frozen? ⟨b,o,none⟩=false:=λb o xs el h=>by
  simp[World.frozen?,h]
 have d:∀(b:Nat) (xs:Array Value) (el:Nat),w.heap[b]? =some (.cells xs el (0,0))->w.shape? b=some (el,xs.size):=λb xs el h=>by
  simp[World.shape?,h]
 by_cases k:b=c;simp_all [sameAddr]
 ·have a:((⟨b,o,none⟩:Addr)==⟨c,p,none⟩)=false:=by
   simp
  rw[a];have hb:(b==c)=false:=by grind
  simp[sameAddr,hb,frozen,shape,Sem.run,fr _ _ _ _ h1,fr _ _ _ _ h2,noView,viewAt,d _ _ _ h1,d _ _ _ h2,mayBeOne,stringish]
def qsQ(P:Program)(w:World)(dd:Nat)(e:TypeId)(ka:Bool)(ks:List KK):Prop:=
 ∀xs a,KVl w ks xs->KVl w ks a->∃r:Bool,(Op.equalIn dd e (M2 ka xs) (M2 ka a)).run P w= .ok r w/\(r=true↔xs=a)
theorem Tu{dd:Nat}{kf:TypeId->Option (List KK)}(hk:∀t ks,kf t=some ks->∃ka,il P t=some ka/\(ka=false->ks.length=1)/\qsQ P w dd t ka ks):
 ∀ (fs:List Field) (off:Nat) (ks:List KK),Fb P kf fs off=some ks->∀pre xs a p:List Value,pre.length=off->a.length=off->KVl w ks xs->KVl w ks p->
  ∃r:Bool,(Op.eqFields dd (pre++xs).toArray (a++p).toArray fs).run P w= .ok r w/\(r=true↔xs=p)
 | [],off,ks,h,pre,xs,a,p,_,_,x,y=>by
   cases h;have h1:=qGo.1 x.length;have h2:=qGo.1 y.length;simp_all [Op.eqFields]
 | f::fs,off,ks,h,pre,xs,a,p,hp,J,x,y=>by
   unfold Fb at h;simp only[qFD,qFA]at h;obtain⟨K,A,h⟩:=h;split at h
   ·rename_i b;simp only[qFA,qFQ,qFJ,decide_eq_true_eq]at h b;obtain⟨l,hl,rfl⟩:=h;obtain⟨⟨I,hn⟩,L⟩:=b;obtain⟨j,s,rfl,c,C⟩:=x.split;obtain⟨k,u,rfl,d,E⟩:=y.split;obtain⟨ka,U,h1,F⟩:=hk _ _ A;have M:(part f.type (pre++ (j++s)).toArray f.offset).run P w= .ok (M2 ka j) w:=by
     grind [vT,c.length]
    have N:(part f.type (a++ (k++u)).toArray f.offset).run P w= .ok (M2 ka k) w:=by
     grind [vT,d.length]
    obtain⟨r,O,W⟩:=F j k c d;obtain⟨r',Q,S⟩:=Tu hk fs (off+K.length) l hl (pre++j) s (a++k) u (by grind [c.length]) (by grind [d.length]) C E;rw[qGJ,qGJ]at Q;have q:j++s=k++u↔j=k/\s=u:=⟨λh=>List.append_inj h (by rw[c.length,d.length]),λ⟨h1,h2⟩=>by grind⟩
    simp only[Op.eqFields,hn,ne_eq,not_false_eq_true,if_true,qF0,M,N,O,qFR,q];cases r;simp_all;grind
   grind
theorem ZU{dd:Nat}{e:TypeId}{ka:Bool}{ks:List KK}(C:il P e=some ka)(hs:cF P e=some ks.length)(h1:ka=false->ks.length=1)(k:qsQ P w dd e ka ks):
 ∀ (m s:Nat) (pre xs a l:List Value),pre.length=s*ks.length->a.length=s*ks.length->KVl w (List.replicate m ks).flatten xs->KVl w (List.replicate m ks).flatten l->
  ∃r:Bool,(Op.eqItems dd e ks.length (pre++xs).toArray (a++l).toArray (List.range' s m)).run P w= .ok r w/\(r=true↔xs=l)
 | 0,s,pre,xs,a,l,_,_,q,t=>by
   have h1:=qGo.1 (KVl.length (ks:=[]) (by simpa using q));have h2:=qGo.1 (KVl.length (ks:=[]) (by simpa using t));simp_all [Op.eqItems]
 | m+1,s,pre,xs,a,l,hp,E,q,t=>by
   rw[qH4,qIb]at q t;obtain⟨d,u,rfl,b,y⟩:=q.split;obtain⟨j,x,rfl,c,A⟩:=t.split;have F:(part e (pre++ (d++u)).toArray (s*ks.length)).run P w= .ok (M2 ka d) w:=by
    grind [vT,b.length]
   have I:(part e (a++ (j++x)).toArray (s*ks.length)).run P w= .ok (M2 ka j) w:=by
    grind [vT,c.length]
   obtain⟨r,J,M⟩:=k d j b c;obtain⟨r',K,L⟩:=ZU C hs h1 k m (s+1) (pre++d) u (a++j) x (by grind [b.length]) (by grind [c.length]) y A;rw[qGJ,qGJ]at K;have p:d++u=j++x↔d=j/\u=x:=⟨λh=>List.append_inj h (by rw[b.length,c.length]),λ⟨h1,h2⟩=>by grind⟩
   rw[qHF];simp only[Op.eqItems,qF0,F,I,J,qFR,p];cases r;simp_all;grind
def Nv{ka:Bool}{ks:List KK}(h:ka=false->∃k,ks=[k]):ka=false->ks.length=1:=λe=>by
 grind
def KVl.one{k:KK}{xs:List Value}(h:KVl w [k] xs):∃x,xs=[x]/\qwu w k x:=by
 match xs,h with
 | [x],h=>exact⟨x,rfl,h.1⟩
 | _::_::_,h=>exact h.2.elim
theorem qCc:∀(n:Nat) (t:TypeId) (ks:List KK) (ka:Bool),M3 P n t=some ks->il P t=some ka->∀d,qsQ P w (d+n) t ka ks
 | 0,t,ks,ka,h,_,_=>by cases h
 | n+1,t,ks,ka,h,j,d=>by
   intro xs L A C;have Q:d+ (n+1)=(d+n) +1:=rfl;rw[Q];unfold M3 at h;unfold il at j;split at h
   ·rename_i k a;rw[a]at j;cases h;cases j;obtain⟨x,rfl,m,rfl⟩:=A.one;obtain⟨y,rfl,q,rfl⟩:=C.one;exact⟨m==q,run_equalIn_int w _ t _ _ _ _ a,by simp⟩
   ·rename_i a;rw[a]at j;cases h;cases j;obtain⟨x,rfl,m,rfl⟩:=A.one;obtain⟨y,rfl,q,rfl⟩:=C.one;exact⟨m.toList==q.toList,run_equalIn_string w _ t _ _ a,by simp[qHp,qIc]⟩
   ·rename_i a;rw[a]at j;cases h;cases j;obtain⟨x,rfl,m,rfl⟩:=A.one;obtain⟨y,rfl,q,rfl⟩:=C.one;exact⟨m==q,run_equalIn_bool w _ t _ _ a,by simp⟩
   ·rename_i e a;rw[a]at j;split at h
    ·rename_i m hm;cases h;cases j;obtain⟨x,rfl,A⟩:=A.one;obtain⟨y,rfl,C⟩:=C.one;simp only[M2,qGt,if_false,List.headD_cons];rcases A with rfl|⟨b,o,rfl,hb⟩ <;>rcases C with rfl|⟨c,p,rfl,hc⟩
     ·exact⟨true,by simp[Op.equalIn,run_underlying a],by simp⟩
     ·exact⟨false,by simp[Op.equalIn,run_underlying a],by simp⟩
     ·exact⟨false,by simp[Op.equalIn,run_underlying a],by simp⟩
     ·refine⟨(⟨b,o,none⟩:Addr)==⟨c,p,none⟩,?_,by simp⟩;simp only[Op.equalIn,qF0,run_underlying a,qFR,be hm,ne_eq,Nat.add_eq_zero_iff,Nat.succ_ne_zero,and_false,not_false_eq_true,if_true];grind [U5]
    grind
   ·rename_i fs a;rw[a]at j;split at h;grind
    ·rename_i S;cases j;have M:P.fieldsOf t=fs:=by grind [Program.fieldsOf]
     have l:=run_equalIn_struct (P:=P) w (d+n) t xs.toArray L.toArray (by grind) (by grind);rw[M]at l;obtain⟨r,U,F⟩:=Tu (P:=P) (w:=w) (dd:=d+n) (kf:=M3 P n) (λt' N I=>by
      obtain⟨u,s,E⟩:=AG I;exact⟨u,s,Nv E,qCc n t' N u I s d⟩) fs.toList 0 ks h [] xs [] L rfl rfl A C
     simp_all [M2]
   ·rename_i len e a;rw[a]at j;cases j;simp only[qFD,qFA]at h;obtain⟨W,J,h⟩:=h;split at h
    ·rename_i K;cases h;obtain⟨i,hi,O⟩:=Si K;obtain⟨u,s,E⟩:=AG J;have l:=run_equalIn_array (P:=P) w (d+n) xs.toArray L.toArray a hi;rw[O,qHJ]at l;obtain⟨r,U,F⟩:=ZU s K (Nv E) (qCc n e W u J s d) len 0 [] xs [] L (by simp) (by simp) A C;simp_all [M2]
    grind
   grind
def qFy(P:Program)(w:World)(a:Bool)(dd:Nat)(e:TypeId)(ka:Bool)(ks:List KK):Prop:=∀xs,KVl w ks xs->(Instr.checkKey a dd e (M2 ka xs)).run P w= .ok () w
theorem qvX(em:Bool):∀(n:Nat) (t:TypeId) (ks:List KK) (ka:Bool),M3 P n t=some ks->il P t=some ka->∀d,qFy P w em (d+n) t ka ks
 | 0,t,ks,ka,h,_,_=>by cases h
 | n+1,t,ks,ka,h,ha,d=>by
   intro xs hx;have hd:d+ (n+1)=(d+n) +1:=rfl;rw[hd,Instr.checkKey];unfold M3 at h;unfold il at ha;split at h
   ·rename_i k hu;rw[hu]at ha;cases h;simp_all [run_underlying]
   ·rename_i hu;rw[hu]at ha;cases h;simp_all [run_underlying]
   ·rename_i hu;rw[hu]at ha;cases h;simp_all [run_underlying]
   ·rename_i e hu;rw[hu]at ha;split at h
    ·cases h;cases ha;obtain⟨x,rfl,hx⟩:=hx.one;rcases hx with rfl|⟨b,o,rfl,hb⟩ <;>simp[M2,run_underlying hu]
    ·cases h
   ·rename_i fs hu;rw[hu]at ha;split at h
    ·cases h
    ·cases ha;simp only[M2,if_true,qF0,run_underlying hu,qFR];rw[<-Array.forIn_toList];have key:∀(l:List Field) (off:Nat) (ks:List KK),Fb P (M3 P n) l off=some ks->∀pre xs:List Value,pre.length=off->KVl w ks xs->
      (forIn l PUnit.unit fun f r => (do if f.name ≠ "_" then (do Instr.checkKey em (d + n) f.type (← part f.type (pre ++ xs).toArray f.offset); pure (ForInStep.yield PUnit.unit)) else pure (ForInStep.yield PUnit.unit) : Sem (ForInStep PUnit))).run P w = .ok PUnit.unit w := by
      intro l
      induction l with
      |nil=>intro off ks _ pre xs _ _;simp
      | cons f l ih=>
        intro off ks h pre xs hp hx;unfold Fb at h;simp only[qFD,qFA]at h;obtain⟨k1,hk1,h⟩:=h;split at h
        ·rename_i hcond;simp only[qFA,qFQ,qFJ,decide_eq_true_eq]at h hcond;obtain⟨l',hl,rfl⟩:=h;obtain⟨⟨hoff,hn⟩,hsz⟩:=hcond;obtain⟨x1,x2,rfl,hx1,hx2⟩:=hx.split;obtain⟨ka',ha',h1'⟩:=AG hk1;have p1:(part f.type (pre++ (x1++x2)).toArray f.offset).run P w= .ok (M2 ka' x1) w:=by
          rw[hoff,<-hp];exact vT ha' (by rw[hx1.length];exact hsz) (λe=>by rw[hx1.length];exact Nv h1' e)
         have p2:=qvX em n f.type k1 ka' hk1 ha' d x1 hx1;have p3:=ih (off+k1.length) l' hl (pre++x1) x2 (by simp[hp,hx1.length]) hx2;rw[qGJ]at p3;simp only[List.forIn_cons,qF0,hn,ne_eq,not_false_eq_true,if_true,qFR,p1,p2,qF9];exact p3
        ·cases h
     have k0:=key fs.toList 0 ks h [] xs rfl hx;rw[qGz]at k0;rw[k0];rfl
   ·rename_i len e hu;rw[hu]at ha;cases ha;simp only[qFD,qFA]at h;obtain⟨k1,hk1,h⟩:=h;split at h
    ·rename_i hsz;cases h;obtain⟨i,hi,hco⟩:=Si hsz;obtain⟨ka',ha',h1'⟩:=AG hk1;simp only[M2,if_true,qF0,run_underlying hu,qFR];simp only[Std.Legacy.Range.forIn_eq_forIn_range',Std.Legacy.Range.size,Nat.sub_zero,Nat.add_one_sub_one,Nat.div_one];have key:∀(m s:Nat) (pre xs:List Value),pre.length=s*k1.length->KVl w (List.replicate m k1).flatten xs->
      (forIn (List.range' s m) PUnit.unit λi r=>(do Instr.checkKey em (d+n) e (<-part e (pre++xs).toArray (i* (<-sizeOf e)));pure (ForInStep.yield PUnit.unit):Sem (ForInStep PUnit))).run P w= .ok PUnit.unit w:=by
      intro m
      induction m with
      |zero=>intro s pre xs _ _;simp
      | succ m ih=>
        intro s pre xs hp hx;rw[qH4,qIb]at hx;obtain⟨x1,x2,rfl,hx1,hx2⟩:=hx.split;have p1:(part e (pre++ (x1++x2)).toArray (s*k1.length)).run P w= .ok (M2 ka' x1) w:=by
         rw[<-hp];exact vT ha' (by rw[hx1.length];exact hsz) (λe=>by rw[hx1.length];exact Nv h1' e)
        have p2:=qvX em n e k1 ka' hk1 ha' d x1 hx1;have p3:=ih (s+1) (pre++x1) x2 (by simp[hp,hx1.length,qGG]) hx2;rw[qGJ]at p3;rw[qHF];simp only[List.forIn_cons,qF0,be hsz,qFR,p1,p2,qF9];exact p3
     have k0:=key len 0 [] xs (by simp) hx;rw[qGz]at k0;rw[k0];rfl
    ·cases h
   grind
end
open Go.ChangeMaps (setBlock)
section
variable {P:Program}{w:World}
def qnS{ka:Bool}{ks:List KK}{xs a:List Value}(h1:ka=false->ks.length=1)(b:KVl w ks xs)(c:KVl w ks a)(h:M2 ka xs=M2 ka a):xs=a:=by
 cases ka with
 |true=>grind [M2]
 | false=>
   obtain⟨k,rfl⟩:=qG4.1 (h1 rfl);grind [b.one,c.one,M2]
def qlA(a b:ByteArray):(a==b)=true↔a=b:=by
 simp[beq_toListBytes,qHp,qIc]
def LK{d:TypeDesc}{x y:Value}{b:Bool}(h:Instr.sameNow d x y=some b):b=true↔x=y:=by
 unfold Instr.sameNow at h;grind [qlA]
def PY{d:TypeDesc}{x:Value} :∀(es:List MapEntry) (i:Nat) (r:Option (Nat×Value)),Instr.findNow d x es i=some r->
 (r=none/\∀e∈es,e.key≠x)\/ ∃j e,r=some (i+j,e.val)/\es[j]? =some e/\e.key=x
 | [],i,r,h=>by
   cases h<;>grind
 | e::es,i,r,h=>by
   unfold Instr.findNow at h;split at h
   ·rename_i hs;cases h;exact .inr ⟨0,e,by simp,rfl,((LK hs).1 rfl).symm⟩
   ·rename_i hs;have a:e.key≠x:=λc=>by grind [LK]
    rcases PY es (i+1) r h with⟨h1,h2⟩|⟨j,b,h1,h2,h3⟩
    grind
    ·exact .inr ⟨j+1,b,by grind,by grind,h3⟩
   grind
structure KeyT (P:Program) (t:TypeId) (ka:Bool) (ks:List KK):Prop where
 c:M3 P 50 t=some ks
 a:il P t=some ka
def E7{t:TypeId}{ka:Bool}{ks:List KK}(h:qjV P t=some (ka,ks)):KeyT P t ka ks:=by
 grind [KeyT,qjV,qFA]
def KeyT.one{t:TypeId}{ka:Bool}{ks:List KK}(h:KeyT P t ka ks):ka=false->ks.length=1:=by
 obtain⟨b,h1,h2⟩:=AG h.c;have:=h.a.symm.trans h1;grind
def WV(w:World)(ka:Bool)(ks:List KK)(x:Value):Prop:=∃xs,x=M2 ka xs/\KVl w ks xs
theorem PZ{t:TypeId}{ka:Bool}{ks:List KK}(l:KeyT P t ka ks){x:Value}(q:WV w ka ks x):∀(es:List MapEntry) (i:Nat),(∀e∈es,WV w ka ks e.key)->
 ∃r,(Instr.findAsking t x es i).run P w= .ok r w/\((r=none/\∀e∈es,e.key≠x)\/ ∃j e,r=some (i+j,e.val)/\es[j]? =some e/\e.key=x)
 | [],i,_=>⟨none,by rfl, .inl ⟨rfl,λe he=>by grind⟩⟩
 | e::es,i,b=>by
   obtain⟨xs,rfl,d⟩:=id q;obtain⟨s,u,h⟩:=b e (by simp);obtain⟨r,y,k⟩:=qCc (P:=P) (w:=w) 50 t ks ka l.c l.a 9950 xs s d h;have p:(Op.equal t (M2 ka xs) e.key).run P w= .ok r w:=by rw[u];exact y
   cases r with
   | true=>
     exact⟨some (i,e.val),by simp[Instr.findAsking,p], .inr ⟨0,e,by simp,rfl,by grind⟩⟩
   | false=>
     have A:e.key≠M2 ka xs:=λE=>by
      have:=k.2 (qnS l.one d h (by grind));grind
     obtain⟨r,h1,h2⟩:=PZ l q es (i+1) (λe he=>b e (by grind));refine⟨r,by simp_all [Instr.findAsking],?_⟩;rcases h2 with⟨h2,h3⟩|⟨j,C,h2,h3,h4⟩
     grind
     ·exact .inr ⟨j+1,C,by grind,by grind,h4⟩
def Wc{t:TypeId}{ka:Bool}{ks:List KK}(b:KeyT P t ka ks){x:Value}(h:WV w ka ks x)(es:List MapEntry)(a:∀e∈es,WV w ka ks e.key):
 ∃r,(Instr.findKey t x es).run P w= .ok r w/\((r=none/\∀e∈es,e.key≠x)\/ ∃j e,r=some (j,e.val)/\es[j]? =some e/\e.key=x):=by
 obtain⟨k,h1,h2⟩:=AG b.c;have l:∃d,P.underlying t=some d:=by
  grind [il]
 obtain⟨d,p⟩:=l;cases hn:Instr.findNow d x es 0 with
 | some r=>
   refine⟨r,by simp_all [Instr.findKey,run_underlying],?_⟩;grind [PY]
 | none=>
   obtain⟨r,h3,h4⟩:=PZ b h es 0 a;simp_all [Instr.findKey,run_underlying]
theorem qfJ{ka:Bool}{ks:List KK}(h1:ka=false->ks.length=1){x:Value}(a:WV w ka ks x):Instr.sameBits 10000 x x=true:=by
 have cell:∀(n:Nat) (k:KK) (x:Value),qwu w k x->Instr.sameBits n x x=true:=λn k x h=>by
  cases k<;>grind [qwu,Instr.sameBits,qlA]
 obtain⟨xs,rfl,b⟩:=a;cases ka with
 | false=>
   obtain⟨k,rfl⟩:=qG4.1 (h1 rfl);obtain⟨x,rfl,a⟩:=b.one;exact cell _ _ _ a
 | true=>
   simp only[M2,if_true,Instr.sameBits,beq_self_eq_true,qHg];have all:∀(ks:List KK) (xs:List Value),KVl w ks xs->(xs.zip xs).all (λx=>Instr.sameBits 9999 x.1 x.2)=true:=by
    intro ks
    induction ks with
    |nil=>intro xs h;cases xs with|nil=>rfl|cons=>exact h.elim
    | cons k ks c=>
      intro xs h;cases xs with
      |nil=>rfl
      |cons x xs=>simp[cell _ _ _ h.1];grind [KVl]
   grind
def qhU{ka:Bool}{ks:List KK}(h1:ka=false->ks.length=1){x:Value}(a:WV w ka ks x):(Instr.keyThatStays x x).run P w= .ok x w:=by
 simp[Instr.keyThatStays,qfJ h1 a]
variable {tp I:Nat->Prop}
def qkw{k:KK}{x:Value}{d:D}(a:qkx k d=true)(h:R tp I w x d):qwu w k x:=by
 unfold qkx at a;split at a
 ·rename_i k c n;have hk:k=c:=by grind
  have:=h.inv_v;subst hk;exact⟨_,this⟩
 ·exact⟨_,h.inv_v⟩
 ·exact⟨_,h.inv_v⟩
 ·rename_i cs off;cases h with
  |cptr b base _ _ f hI hz _ _ _=>exact .inr ⟨b,base+off,rfl,hz (by grind)⟩
 ·exact .inl h.inv_v
 grind
def qkv:∀{ks:List KK} {ds:List D} {xs:List Value},qcy ks ds=true->xs.length=ds.length->(∀(k:Nat) (x:Value) (c:D),xs[k]? =some x->ds[k]? =some c->R tp I w x c)->KVl w ks xs
 | [], [],xs,_,hl,_=>by
   have:=qGo.1 hl;subst this;trivial
 | k::ks,d::ds,x::xs,h,hl,a=>by
   simp only[qcy,qFJ]at h;exact⟨qkw h.1 (a 0 x d rfl rfl),qkv h.2 (by grind) λk y c h1 h2=>a (k+1) y c h1 h2⟩
 | _::_,_::_, [],_,hl,_=>by grind
 | [],_::_,_,h,_,_=>by cases h
 | _::_, [],_,h,_,_=>by cases h
def V9{ka:Bool}{ks:List KK}{x:Value}{d:D}(a:M6 ka ks d=true)(h:R tp I w x d):WV w ka ks x:=by
 unfold M6 at a;cases ka with
 | true=>
   simp only[if_true]at a;cases d<;>simp only[rR]at a<;>try (cases a;done)
   obtain⟨xs,rfl,hl,hc⟩:=h.inv_agg;exact⟨xs,rfl,qkv a hl λk y c h1 h2=>(hc k y c h1 h2).2⟩
 | false=>
   simp only[qGt,if_false]at a;split at a
   ·exact⟨[x],rfl,qkw a h,trivial⟩
   grind
def Vc{x y:Value}{d:D}(hp:F1 d=true)(h:R tp I w x d)(j:R tp I w y d):x=y:=by
 have one:∀(c:D),qtj c=true->∀{x y:Value},R tp I w x c->R tp I w y c->x=y:=λc hc x y h1 h2=>by
  cases c<;>first|(cases hc;done)|exact h1.inv_v.trans h2.inv_v.symm
 by_cases a:∃cs,d= .agg cs
 ·obtain⟨cs,rfl⟩:=a;obtain⟨xs,rfl,hl,hc⟩:=h.inv_agg;obtain⟨k,rfl,l,b⟩:=j.inv_agg;have:xs=k:=by
   refine qHG (by omega) λi h1 h2=>?_
   have hi:i<cs.length:=by omega
   have p:qtj cs[i]=true:=qFI.1 hp _ (by simp[D.cells]);exact one _ p (hc i _ _ (qFC h1) (qFC hi)).2 (b i _ _ (qFC h2) (qFC hi)).2
  grind
 ·have q:d.cells=[d]:=by cases d<;>first|rfl|grind
  grind [F1]
def R.ent{a b:Value}{k v:D}(h:R tp I w (.tuple #[a,b]) (.tup [k,v])):R tp I w a k/\R tp I w b v:=by
 generalize d:Value.tuple #[a,b]=q at h;cases h with
 | tup xs ds hl h=>
   have c:xs=[a,b]:=by
    grind
   subst c;exact⟨h 0 a k rfl rfl,h 1 b v rfl rfl⟩
def Jl{ka:Bool}{ks:List KK}{d:D}(h:Wb ka ks d=true):∃k v,d= .tup [k,v]/\M6 ka ks k=true:=by
 unfold Wb at h;grind
def R.mk_ent{a b:Value}{k v:D}(h1:R tp I w a k)(h2:R tp I w b v):R tp I w (.tuple #[a,b]) (.tup [k,v]):=
 .tup [a,b] [k,v] rfl λi x c d hc=>by
  grind
end
section
variable {P:Program}{o:Oper}{a:Act}{E:CO}{tp I:Nat->Prop}{H:ab}{w:World}{σ:Sg}
def qd0{q:Value}{d:D}{Hr:ab}{K:List D->Prop}(l:R tp I w q d)(p:∀i r,Hr i=some r->H i=some r)(k:∀i r,H i=some r->ResOk (R tp I w) w r)(j:D3 d Hr K):
 ∃es,K es/\((q= .map none/\es=[])\/ ∃b c clock,q= .map (some b)/\w.heap[b]? =some (.map c clock)/\ga c clock/\Cs (R tp I w) c es):=by
 unfold D3 at j;split at j
 ·rename_i es;cases l with
  |nomp=>grind
  |mp b c clock _ hI hh hl hb h=>exact⟨es,j, .inr ⟨b,c,clock,rfl,hh,hb,hl,h⟩⟩
 ·exact⟨[],j, .inl ⟨l.inv_v,rfl⟩⟩
 ·rename_i id x;split at j
  ·rename_i t es s;obtain⟨rfl,hk⟩:=j;obtain⟨b,c,clock,rfl,h1,h2,h3⟩:=k _ _ (p _ _ s);cases l<;>grind
  grind
 grind
def Ep{b:Array MapEntry}{es:List D}(h:Cs (R tp I w) b es){j:Nat}{e:MapEntry}(he:b[j]? =some e):∃c,es[j]? =some c/\R tp I w (.tuple #[e.key,e.val]) c:=by
 have d:j<es.length:=by grind [Cs]
 exact⟨es[j],qFC d,h.2 j e _ he (qFC d)⟩
def Wh{b:Array MapEntry}{es:List D}{ka:Bool}{ks:List KK}(h:Cs (R tp I w) b es)(l:es.all (Wb ka ks)=true):∀e∈b.toList,WV w ka ks e.key:=by
 intro e he;obtain⟨j,q⟩:=qF3.1 he;have d:b[j]? =some e:=by grind
 obtain⟨c,hc,p⟩:=Ep h d;obtain⟨k,v,rfl,hk⟩:=Jl (qFI.1 l c (qFF hc));exact V9 hk p.ent.1
theorem qe9{t:TypeId}{z:List Value}{agg:Bool}(hz:cj P t=some z)(b:Nj P t agg=true):∃h,(zeroValue t).run P w= .ok h w/\R tp I w h (TT agg z):=by
 obtain⟨i,h,hi,r,d,A,j,s⟩:=eO hz;refine⟨h,by simp_all [zeroValue,typeInfo],?_⟩;have l:=mr (tp:=tp) (I:=I) (w:=w) s j;simp only[Nj,hi,qFW,r]at b;split at b
 ·rename_i cs p;cases p;subst b;simp only[TT,if_true];rw[<-d];have:(Value.agg cs)= .agg cs.toList.toArray:=by simp
  rw[this];have q:(Value.agg cs).cells.toList=cs.toList:=rfl;rw[<-this,q];rw[q]at d;rw[<-d]at l j;have h2:=R.agg (tp:=tp) (I:=I) (w:=w) cs.toList (cs.toList.map yy) (by simp) (λx u=>qFI.1 j x u) (λk x c h1 h2=>(l k x c h1 h2).2);omega
 ·rename_i x C u;cases u;simp only[qFJ,qHi]at b;obtain⟨rfl,h1⟩:=b;have y:h.cells= #[h]:=by cases h<;>first|rfl|grind
  rw[y]at d;subst d;have:=l 0 h (yy h) rfl rfl;grind [TT]
 grind
theorem qgE{t u Q:TypeId}{x k:Operand}{ok agg ka:Bool}{ks:List KK}{z:List Value}{K:D->Prop}(ho:o.op= .lookup t x k ok)(ht:P.underlying t=some (.map u Q))(q:KeyT P u ka ks)(hz:cj P Q=some z)(S:Nj P Q agg=true)
 (hx:R tp I w (a.eval x) (ev σ x)) (hk:R tp I w (a.eval k) (ev σ k)) {Hr:ab} (U:∀i r,Hr i=some r->H i=some r) (y:∀i r,H i=some r->ResOk (R tp I w) w r)
 (hv:am (.m (.look ok agg ka ks z) [x,k]) σ Hr K):Good P o a tp I w K:=by
 simp only[am,yr,qF6,qGX]at hv;obtain⟨es,⟨p,W,l,Y⟩,hm⟩:=qd0 hx U y hv;have A:=V9 W hk;obtain⟨zv,C,F⟩:=qe9 (P:=P) (w:=w) (tp:=tp) (I:=I) hz S;have J:∀Z,(Instr.checkKey Z 10000 u (a.eval k)).run P w= .ok () w:=λZ=>by
  obtain⟨xs,h1,h2⟩:=A;rw[h1];exact qvX Z 50 u ks ka q.c q.a 9950 xs h2
 have main:∀(d:Array MapEntry),(∀e∈d.toList,WV w ka ks e.key)->(∀(j:Nat) (e:MapEntry),d[j]? =some e->∃c,es[j]? =some c/\R tp I w (.tuple #[e.key,e.val]) c)->
  (∀c∈es,∃e∈d.toList,R tp I w (.tuple #[e.key,e.val]) c)->
  (∀r:Option (Nat×Value),(Instr.findKey u (a.eval k) d.toList).run P w= .ok r w->(execOp a.eval o).run P w= .ok (.value (match r with|some (_,v)=>if ok then .tuple #[v, .bool true]else v|none=>if ok then .tuple #[zv, .bool false]else zv)) w)->Good P o a tp I w K:=by
  intro d h1 h2 h3 L;obtain⟨r,M,s⟩:=Wc (P:=P) q A d.toList h1;have hex:=L r M;rcases s with⟨rfl,hne⟩|⟨j,e,rfl,hj,hke⟩
  ·refine⟨_,qnX ok (TT agg z) false,hex,?_,Y λhp v N=>?_⟩
   ·cases ok with
    |true=>exact R.mk_ent F (.bool _)
    |false=>exact F
   ·obtain⟨e,he,O⟩:=h3 _ N;exact hne e he (Vc hp O.ent.1 hk)
  ·obtain⟨c,hc,O⟩:=h2 j e (by grind);obtain⟨k',v',rfl,_⟩:=Jl (qFI.1 p c (qFF hc));refine⟨_,qnX ok v' true,hex,?_,l k' v' (qFF hc) ⟨tp,I,w,a.eval k,hk,by rw[<-hke];exact O.ent.1⟩⟩;cases ok with
   |true=>exact R.mk_ent O.ent.2 (.bool _)
   |false=>exact O.ent.2
 rcases hm with⟨hq,rfl⟩|⟨b,d,clock,hq,hb,hbo,h⟩
 ·refine main #[] (λe he=>by simp at he) (λj e he=>by simp at he) (λc hc=>by simp at hc) λr M=>?_
  have hr':(Instr.findKey u (a.eval k) []).run P w= .ok r w:=M;simp only[execOp,ho,hq,Instr.lookup,qF0,run_underlying ht,qFR,qF9,J,hr'];rcases r with _|⟨i,v⟩ <;>cases ok<;>simp[C]
 ·refine main d (Wh h p) (λj e he=>Ep h he) (λc hc=>?_) λr M=>?_
  ·obtain⟨j,hj⟩:=qF3.1 hc;have hlt:j<d.size:=by rw[h.1];exact(qFB.1 hj).1
   exact⟨d[j],by simp,h.2 j _ c (by simp[hlt]) hj⟩
  ·simp only[execOp,ho,hq,Instr.lookup,qF0,run_underlying ht,qFR,qF9,J,M,getObj,Sem.run,hb];rcases r with _|⟨i,v⟩ <;>cases ok<;>simp[C]
theorem qgC{t y A:TypeId}{c:Call}{x:Operand}{K:D->Prop}(ho:o.op= .call c)(hc:c.callee= .builtin .len)(j:c.argTypes.toList=[t])(d:c.args.toList=[x])(q:P.underlying t=some (.map y A))
 (C:R tp I w (a.eval x) (ev σ x)) {Hr:ab} (l:∀i r,Hr i=some r->H i=some r) (k:∀i r,H i=some r->ResOk (R tp I w) w r)
 (s:am (.m .len [x]) σ Hr K):Good P o a tp I w K:=by
 obtain⟨cl,⟨args⟩,⟨F⟩⟩:=c;simp only at j d hc;subst j;subst d;subst hc;simp only[am,yr,qF6,qGX]at s;obtain⟨es,hk,hm⟩:=qd0 C l k s;rcases hm with⟨p,rfl⟩|⟨b,u,clock,p,hb,J,h⟩
 ·exact⟨_,_,by simp[execOp,ho,resolve,invoke,builtin,p,Builtin.len_,run_underlying q,goInt], .int _ _,hk⟩
 ·refine⟨.int .i64 es.length,_,?_, .int _ _,hk⟩;rw[<-h.1];simp[execOp,ho,resolve,invoke,builtin,p,Builtin.len_,run_underlying q,goInt,getObj,Sem.run,hb]
theorem qdZ{m:Option Nat}{since last:Nat}{seen:Array Nat}{cur ds:List D}(h:R tp I w (PA m since seen last) (.mst cur ds)):
 (m=none/\cur=[]/\ds=[])\/ ∃b es clock ce,m=some b/\I b/\w.heap[b]? =some (.map es clock)/\ga es clock/\(∀e∈es.toList,e.born<since)/\since<=last/\since<=clock/\(jJ es seen).length=ds.length/\
   (cur=[]\/(cur.length=1/\seen.back? =some ce.born/\ce∈es.toList/\last=clock))/\(∀c,cur=[c]->R tp I w (.tuple #[ce.key,ce.val]) c)/\∀(k:Nat) (e:MapEntry) (c:D),(jJ es seen)[k]? =some e->ds[k]? =some c->R tp I w (.tuple #[e.key,e.val]) c:=by
 generalize p:PA m since seen last=q at h;have d:∀s j:Array Nat,(s.map λ(n:Nat)=>Value.int .i64 n)=(j.map λ(n:Nat)=>Value.int .i64 n)->s=j:=λs j h=>by
  have:=congrArg Array.toList h;grind [PA,Array.toList_map,List.map_inj_right,Array.toList_inj]
 cases h with
 | nomst s l r=>
   simp only[PA,qId]at p;grind
 | mst b es clock s l r ce _ _ hI hh hb hs hsl hl hc hcr h=>
   simp only[PA,qId]at p;grind
theorem qcr{x:Operand}{K:D->Prop}(ho:o.op= .entry x)(F:R tp I w (a.eval x) (ev σ x)){Hr:ab}(t:∀i r,Hr i=some r->H i=some r)(k:∀i r,H i=some r->ResOk (R tp I w) w r)
 (d:am (.m .entry [x]) σ Hr K):Good P o a tp I w K:=by
 simp only[am,yr,qF6,qGX]at d;generalize hq:a.eval x=q at F;split at d<;>try (exact d.elim)
 grind;grind
 ·rename_i ds id b off _ A;simp only[qF8,and_true]at A;rw[A]at F;obtain⟨rfl,d⟩:=d;split at d
  ·rename_i b' e left J;obtain⟨rfl,hk⟩:=d;cases F;obtain⟨m,since,last,seen,S,U⟩:=k _ _ (t _ _ J);rcases qdZ U with⟨_,h,_⟩|⟨W,es,clock,ce,rfl,hI,hb,u,hs,hsl,Y,hl,hc,hcr,O⟩
   grind
   ·rcases hc with h|⟨_,L,p,rfl⟩;grind
    ·have Z:es.find? (·.born==ce.born)=some ce:=by rw[<-Array.find?_toList];exact find_born ce es.toList u.2 p
     refine⟨.tuple #[ce.key,ce.val],e,?_,hcr e rfl,hk⟩;simp_all [execOp,Instr.entry,getObj,Sem.run]
  ·rename_i b' m xm clk seen J;obtain⟨rfl,d⟩:=d;unfold FV at d;split at d
   ·rename_i x' es st Q hM;obtain⟨rfl,rfl,d⟩:=d;split at d
    ·rename_i s hs;obtain⟨C,hK⟩:=d;cases F;obtain⟨mb,rfl,S⟩:=k _ _ (t _ _ J);obtain⟨W,l,M,hb,u,rfl,y⟩:=k _ _ (t _ _ hM);cases M;obtain⟨ce,p,rfl⟩:=qFL.1 C;have L:seen.toArray.back? =some ce.born:=by grind
     have Z:l.find? (·.born==ce.born)=some ce:=by rw[<-Array.find?_toList];exact find_born ce l.toList u.2 p
     obtain⟨j,hj⟩:=qF3.1 p;have N:l[j]? =some ce:=by grind
     obtain⟨c,hc,hR⟩:=Ep y N;refine⟨.tuple #[ce.key,ce.val],c,?_,hR,hK j c (by grind) hc⟩;simp_all [execOp,Instr.entry,getObj,Sem.run]
    grind
   grind
  grind
 grind
theorem qgJ{t el:TypeId}{len sz:Nat}{x i:Operand}{K:D->Prop}(ho:o.op= .indexAddr t x i)(q:P.underlying t=some (.array len el))(hs:cF P el=some sz)
 (r:R tp I w (a.eval x) (ev σ x)) (hi:R tp I w (a.eval i) (ev σ i)) {Hr:ab} (j:am (.m (.aidx len sz) [x,i]) σ Hr K):Good P o a tp I w K:=by
 simp only[am,qF6,qGX]at j;generalize hid:ev σ i=id at hi j;have main:∀(p:IntKind) (k:Int),a.eval i= .int p k->0<=k->k<len->P1 (k.toNat*sz) (ev σ x) K->Good P o a tp I w K:=by
  intro p k hk h0 h1 hm;refine wQ (d:=k.toNat*sz) (x:=x) (λb off hb=>?_) r (H:=λ_=>none) hm;simp[execOp,ho,hk,hb,Instr.indexAt,asIntOf,run_underlying q,Instr.sureAddr,h0,h1,be hs,mj]
 unfold yr at j;split at j<;>try (exact j.elim)
 all_goals first
  |(rename_i h _;cases h;done)
  |skip
 rename_i l c;cases l;simp only[qF8,and_true]at c;obtain⟨rfl,rfl⟩:=c;grind [Good,cF,hi.inv_v]
def wa{w:World}{b:Nat}{c:Obj}(o:Obj)(hb:w.heap[b]? =some c):(setBlock w b o).heap[b]? =some o:=by
 grind [setBlock]
def VP{w:World}{b c:Nat}(o:Obj)(h:c≠b):(setBlock w b o).heap[c]? =w.heap[c]?:=by
 have d:b≠c:=λe=>h e.symm
 grind [setBlock]
def AH(w:World)(b:Nat)(o:Obj):GrB w (setBlock w b o) (some b):=
 ⟨⟨rfl,rfl,rfl,by simp[setBlock],λk _ hk=>VP o (λe=>hk (by rw[e]))⟩,qFH _⟩
def quJ{t ty:Nat}{K:D->ab->Prop}(d:StW E tp H w)(ho:o.op= .makeMap ty none)(h:∀x,K (.own t x) (ai H t (some (.mrow x [])))):dj P o a E tp H w K:=by
 refine⟨_, .map (some w.heap.size), .own t (.map (some w.heap.size)),_,w.alloc (.map #[] 0),?_, .inl rfl,qz (r':= .mrow (.map (some w.heap.size)) []) d (λb hb=>by cases hb;rfl) (λm=>?_), .own _ _ rfl,h _⟩
 ·simp only[execOp,ho,qG7,qF0];rfl
 ·exact⟨w.heap.size, #[],0,rfl,heap_alloc_new _ _,⟨λe he=>by grind,by simp⟩,rfl,λk e c he=>by simp⟩
def qax{es:Array MapEntry}{clock i:Nat}{k v:Value}(h:ga es clock):ga (es.modify i λe=>{ e with key:=k,val:=v }) clock:=by
 have hm:((es.modify i λe=>{ e with key:=k,val:=v }).toList.map (·.born))=es.toList.map (·.born):=by
  refine qGj λj=>?_
  grind
 refine⟨λe he=>?_,by grind [ga]⟩;have:e.born∈ (es.modify i λe=>{ e with key:=k,val:=v }).toList.map (·.born):=qFL.2 ⟨e,he,rfl⟩;grind [ga]
def qg2{es:Array MapEntry}{clock:Nat}{k v:Value}(h:ga es clock):ga (es.push { key:=k,val:=v,born:=clock }) (clock+1):=by
 refine⟨λe he=>?_,?_⟩
 ·rw[Array.toList_push,qFG,qGT]at he;rcases he with he|rfl;grind [ga];simp
 grind [ga]
theorem qjl{ty kt et:TypeId}{x k v:Operand}{ka:Bool}{ks:List KK}{K:D->ab->Prop}(hst:StW E tp H w)(ho:o.op= .mapUpdate ty x k v\/o.op= .insert ty x k v)(ht:P.underlying ty=some (.map kt et))(t:KeyT P kt ka ks)
 (hx:R tp (aR E.O tp H w) w (a.eval x) (ev σ x)) (hk:R tp (aR E.O tp H w) w (a.eval k) (ev σ k)) (hvv:R tp (aR E.O tp H w) w (a.eval v) (ev σ v))
 (Z:bK (.m (.upd ka ks) [x,k,v]) o.dst σ H K):dj P o a E tp H w K:=by
 simp only[bK,qF6,qGX]at Z;generalize hq:a.eval x=q at hx;generalize hxd:ev σ x=xd at hx Z;cases xd<;>try (exact Z.elim)
 ·rename_i id xv;cases hx;simp only[ip]at Z;split at Z
  ·rename_i x' es hH;obtain⟨rfl,F,hfk,hup,hno⟩:=Z;have hsat:∀i r,H i=some r->ResOk (R tp (aR E.O tp H w) w) w r:=hst.sat.ok;obtain⟨b,s,clock,rfl,hb,hbo,h⟩:=hsat _ _ hH;have J:=V9 hfk hk;have hck:(Instr.checkKey false 10000 kt (a.eval k)).run P w= .ok () w:=by
    obtain⟨xs,h1,h2⟩:=J;rw[h1];exact qvX false 50 kt ks ka t.c t.a 9950 xs h2
   obtain⟨r,hr,L⟩:=Wc (P:=P) t J s.toList (Wh h F);have hset:∀ob:Obj,(setObj b ob).run P w= .ok () (setBlock w b ob):=λob=>by grind [StW,KeyT,setObj,Sem.run,setBlock]
   have fin:∀(p:Array MapEntry) (l:Nat) (es':List D),(Instr.mapUpdate ty (.map (some b)) (a.eval k) (a.eval v)).run P w= .ok () (setBlock w b (.map p l))->ga p l->
    (∀(Q:Value->D->Prop),(∀y d,R tp (aR E.O tp H w) w y d->Q y d)->(∀(k' v':Value) (c d:D),Q k' c->Q v' d->Q (.tuple #[k',v']) (.tup [c,d]))->Cs Q p es')->K .undef (ai H id (some (.mrow (.map (some b)) es')))->dj P o a E tp H w K:=by
    intro p l es' hrun hbo' u hK;have hm:=hst.own id (some (.mrow (.map (some b)) es')) (AH w b (.map p l)) (λc hc=>by cases hc;exact⟨_,hH,rfl⟩) (λr c h1 h2=>by cases h1;cases h2;exact .inr ⟨_,hH,rfl⟩) (λm r h1=>by
     cases h1;exact⟨b,p,l,rfl,wa _ hb,hbo',u _ m λk' v' c d h1 h2=>R.mk_ent h1 h2⟩)
    refine⟨.skip,Go.undef, .undef,_,_,?_, .inr ⟨rfl,rfl⟩,hm, .undef,hK⟩;rcases ho with ho|ho<;>simp[execOp,ho,hq,hrun]
   rcases L with⟨rfl,hne⟩|⟨j,e,rfl,hj,hke⟩
   ·refine fin (s.push { key:=a.eval k,val:=a.eval v,born:=clock }) (clock+1) (es++ [.tup [ev σ k,ev σ v]]) ?_ (qg2 hbo) (λQ M hT=>⟨by simp[h.1],λi e c he hc=>?_⟩) (hno λhp v' hmem=>?_);simp_all [StW,KeyT,R,M6,Instr.mapUpdate,getObj,Sem.run,run_underlying]
    ·rw[Array.getElem?_push]at he;split at he
     ·rename_i hi;cases he;rw[qF4 (by rw[<-h.1];omega)]at hc;rw[<-h.1,hi]at hc;simp at hc;subst hc;exact hT _ _ _ _ (M _ _ hk) (M _ _ hvv)
     ·have N:=(qFN.1 he).1;rw[qGc (by rw[<-h.1];exact N)]at hc;exact M _ _ (h.2 i e c he hc)
    ·obtain⟨i,hi⟩:=qF3.1 hmem;have N:i<s.size:=by rw[h.1];exact(qFB.1 hi).1
     have hR:=h.2 i s[i] _ (by simp[N]) hi;exact hne s[i] (by simp) (Vc hp hR.ent.1 hk)
   ·have S:s[j]? =some e:=by simpa using hj
    obtain⟨c,hc,hR⟩:=Ep h S;obtain⟨k',v',rfl,_⟩:=Jl (qFI.1 F c (qFF hc));have U:j<es.length:=(qFB.1 hc).1;have A:es=es.take j++D.tup [k',v']::es.drop (j+1):=by
     have h1:=(qFB.1 hc).2;rw[<-h1,<-qGh U,qGa]
    have W:es.take j++D.tup [ev σ k,ev σ v]::es.drop (j+1)=es.set j (.tup [ev σ k,ev σ v]):=by
     rw[qHC,if_pos U]
    have hK:=hup _ k' v' _ A ⟨tp,aR E.O tp H w,w,a.eval k,hk,by rw[<-hke];exact hR.ent.1⟩;rw[W]at hK;refine fin (s.modify j λe=>{ e with key:=a.eval k,val:=a.eval v }) clock (es.set j (.tup [ev σ k,ev σ v])) ?_ (qax hbo) (λQ M hT=>⟨by simp[h.1],λi e2 c2 he C=>?_⟩) hK
    ·have hst2:(Instr.keyThatStays e.key (a.eval k)).run P w= .ok (a.eval k) w:=by rw[hke];exact qhU t.one J
     simp[Instr.mapUpdate,run_underlying ht,getObj,Sem.run,hb,hck,hr,hset,S,hst2]
    ·rw[qHI]at he;by_cases Y:j=i
     ·subst Y;rw[if_pos rfl,S]at he;cases he;rw[qGH U]at C;cases C;exact hT _ _ _ _ (M _ _ hk) (M _ _ hvv)
     ·rw[if_neg Y]at he;rw[qHK Y]at C;exact M _ _ (h.2 i e2 c2 he C)
  grind
def qnR{b:Nat}{d:Array MapEntry}{clock:Nat}{es:List D}(hI:I b)(hb:w.heap[b]? =some (.map d clock))(l:ga d clock)(j:Cs (R tp I w) d es):R tp I w (PA (some b) clock #[] clock) (.mst [] es):=by
 have hl:jJ d #[]=d.toList:=by simp[jJ]
 refine .mst b d clock clock clock #[] default [] es hI hb l l.1 ⟨qFH _,qFH _⟩ (by rw[hl,qGm];exact j.1) (.inl rfl) (λc h=>by cases h) (λk e c he hc=>?_);rw[hl,qFZ]at he;exact j.2 k e c he hc
theorem qrt{t ty S U:TypeId}{x:Operand}{K:D->ab->Prop}(p:StW E tp H w)(ho:o.op= .range ty x)(ht:P.underlying ty=some (.map S U))(u:R tp (aR E.O tp H w) w (a.eval x) (ev σ x))(W:o.dst=some t)
 (l:bK (.m .rng [x]) o.dst σ H K):dj P o a E tp H w K:=by
 simp only[bK,ip,qF6,qGX,W]at l;generalize hq:a.eval x=q at u;have fin:∀(m:Option Nat) (clock:Nat) (es:List D),(Instr.range ty q).run P w= .ok (.pointer (some ⟨w.heap.size,0,none⟩)) (w.alloc (.mapIter m clock #[] clock))->(∀(A:Nat->Prop) (w':World),(∀y d,R tp (aR E.O tp H w) w y d->R tp A w' y d)->R tp A w' (PA m clock #[] clock) (.mst [] es))->
  (∀b,K (.bptr t b 0) (ai H t (some (.miter b [] es))))->dj P o a E tp H w K:=by
  intro m clock es N Y L;refine⟨_, .pointer (some ⟨w.heap.size,0,none⟩), .bptr t w.heap.size 0,_,w.alloc (.mapIter m clock #[] clock),?_, .inl rfl,qz (r':= .miter w.heap.size [] es) p (λb hb=>by cases hb;rfl) (λmv=>⟨m,clock,clock, #[],heap_alloc_new _ _,Y _ _ mv⟩), .bptr _ _ _,L _⟩;grind [execOp,qF0,qFR,qF9]
 split at l
 ·rename_i es C;rw[C]at u;cases u with
  |nomp=>exact fin none 0 [] (by grind [run_range_nilMap]) (λA w' _=> .nomst _ _ _) l
  | mp b j clock _ hI hh hl hb h=>
    exact fin (some b) clock es (by grind [StW,D,ev,aR,ga,dj,run_range_map]) (λA w' mv=>mv _ _ (qnR hI hh hb ⟨hl,h⟩)) l
 ·rename_i C;rw[C]at u;have:=u.inv_v;subst this;exact fin none 0 [] (by grind [StW,D,ev,run_range_nilMap]) (λA w' _=> .nomst _ _ _) l
 ·rename_i id xv C;rw[C]at u;cases u;unfold LP at l;split at l
  ·rename_i x' es Q;obtain⟨rfl,L⟩:=l;obtain⟨b,j,clock,rfl,h1,h2,h3⟩:=p.sat.ok _ _ Q;have F:=p.own id (some (.raw (.mrs (.map (some b)) es (j.toList.map (·.born)) clock))) (gG w none) (λc hc=>by grind) (λr c M Z=>by cases M;exact .inr ⟨_,Q,Z⟩) (λmv r M=>by
    cases M;exact⟨b,j,rfl,h1,h2,rfl,h3.1,λk e c he hc=>mv _ _ (h3.2 k e c he hc)⟩)
   have J:=qz (t:=t) (ob:= .mapIter (some b) clock #[] clock) (r':= .raw (.mit w.heap.size id (.map (some b)) clock [])) F.1 (λc hc=>by cases hc;rfl) (λmv=>⟨b,rfl,heap_alloc_new _ _⟩);refine⟨_, .pointer (some ⟨w.heap.size,0,none⟩), .bptr t w.heap.size 0,_,w.alloc (.mapIter (some b) clock #[] clock),?_, .inl rfl,⟨J.1,λy d h=>J.2 _ _ (F.2 _ _ h)⟩, .bptr _ _ _,L w.heap.size _ clock ⟨by rw[qGl,qGm];exact h3.1,h2.2,λs hs=>?_⟩⟩;grind [execOp,qF0,qFR,qF9,run_range_map];grind [ga]
  grind
 grind
def Yd{b:Type}{l:List b}{j:Nat}{x:b}(h:l[j]? =some x):l=l.take j++x::l.drop (j+1):=by
 grind [qGh,qGa]
def qf9{b j:Type}{f:b->j}{c d:List b}{x:b}(h:((c++x::d).map f).Nodup):∀y∈c++d,f y≠f x:=by
 grind
def qgq{es:Array MapEntry}{seen:Array Nat}{c d:List MapEntry}{e:MapEntry}(hn:(es.toList.map (·.born)).Nodup)(h:jJ es seen=c++e::d):jJ es (seen.push e.born)=c++d:=by
 have b:((jJ es seen).map (·.born)).Nodup:=by
  refine List.Nodup.sublist (List.Sublist.map _ qH5) hn
 rw[h]at b;have j:=qf9 b;have h2:jJ es (seen.push e.born)=(jJ es seen).filter λy=>!(y.born==e.born):=by
  simp only[jJ,List.filter_filter];grind
 rw[h2,h,qHu,qHH];have he:(!(e.born==e.born))=false:=by simp
 rw[he];simp only[qGt,if_false];grind [qHd]
theorem qnD{x:Operand}{K:D->ab->Prop}(u:StW E tp H w)(ho:o.op= .next x false)(hx:R tp (aR E.O tp H w) w (a.eval x) (ev σ x))(A:bK (.m .next [x]) o.dst σ H K):dj P o a E tp H w K:=by
 simp only[bK,qF6,qGX]at A;generalize hq:a.eval x=q at hx;generalize hxd:ev σ x=xd at hx A;cases xd<;>try (exact A.elim)
 rename_i id b off;simp only[ip]at A;obtain⟨rfl,A⟩:=A;cases hx;split at A
 ·rename_i b' cur left U;obtain⟨rfl,h1,h2⟩:=A;obtain⟨m,since,last,seen,W,g2⟩:=u.sat.ok id _ U;have over:(Instr.next (.pointer (some ⟨b',0,none⟩)) false o.type).run P w= .ok (.tuple #[.bool false]) w->left=[]->dj P o a E tp H w K:=λl hl=>
   ⟨_,_,_,_,w,by grind [StW,D,ev,execOp,qF0,qFR,qF9], .inl rfl,⟨u,λy e h=>h⟩, .tup [.bool false] [.v (.bool false)] rfl (λk y c h1 h2=>by
    match k with
    | 0=>simp at h1 h2;subst h1;subst h2;exact .bool _
    |k+1=>grind),h1 hl⟩
  rcases qdZ g2 with⟨rfl,_,hl⟩|⟨Q,es,clock,ce,rfl,hI,hb,F,hs,hsl,hsc,hl,hc,hcr,J⟩
  ·exact over (by simp[Instr.next,getObj,Sem.run,W]) hl
  ·rcases run_next_at (P:=P) w o.type b' Q since last seen es clock W hb hs hsl with⟨h0,l⟩|⟨e,he,w1,L,l⟩
   ·have:(jJ es seen).length=0:=by
     have h3:(leftOf es seen).toList=jJ es seen:=by simp[leftOf,jJ]
     grind
    grind
   ·have h3:(leftOf es seen).toList=jJ es seen:=by simp[leftOf,jJ]
    rw[h3]at he;obtain⟨j,hj⟩:=qF3.1 he;have hjl:j<left.length:=by grind
    have hd:left[j]? =some left[j]:=qFC hjl;have hR:=J j e _ hj hd;have hsp:=Yd hj;have hds:=Yd hd;have M:=qgq F.2 hsp;have Y:GrB w (setBlock w1 b' (.mapIter (some Q) since (seen.push e.born) clock)) (some b'):=by
     rcases L with rfl|rfl;grind [GrB,D,ev,ga,jJ,StW,dj,AH]
     ·have:=AH w.drew b' (.mapIter (some Q) since (seen.push e.born) clock);exact⟨⟨rfl,rfl,rfl,this.size,this.block⟩,qGV _⟩
    have Z:(setBlock w1 b' (.mapIter (some Q) since (seen.push e.born) clock)).heap[b']? =some (.mapIter (some Q) since (seen.push e.born) clock):=by
     rcases L with rfl|rfl;grind [D,ev,ga,jJ,StW,dj,wa]
     ·exact wa (w:=w.drew) _ W
    have hlen:(left.take j++left.drop (j+1)).length=((jJ es seen).take j++ (jJ es seen).drop (j+1)).length:=by
     simp only[qF5,qF7,qGO,hl]
    have hgood:R tp (aR E.O tp H w) w (PA (some Q) since (seen.push e.born) clock) (.mst [left[j]] (left.take j++left.drop (j+1))):=by
     refine .mst Q es clock since clock (seen.push e.born) e _ _ hI hb F hs ⟨hsc,hsc⟩ (by rw[M,hlen]) (.inr ⟨rfl,by simp,?_,rfl⟩) (λc hc=>by cases hc;exact hR) (λk y c hy hc=>?_)
     ·have:=qFF hj;exact(qGA.1 this).1
     ·rw[M]at hy;by_cases hk:k<j
      ·rw[qGc (by rw[qF7];have:=(qFB.1 hj).1;omega),qFX,if_pos hk]at hy;rw[qGc (by rw[qF7];omega),qFX,if_pos hk]at hc;exact J k y c hy hc
      ·have hjl2:=(qFB.1 hj).1;have e1:((jJ es seen).take j).length=j:=by rw[qF7];omega
       have e2:(left.take j).length=j:=by rw[qF7];omega
       rw[qF4 (by rw[e1];omega),qGx,e1]at hy;rw[qF4 (by rw[e2];omega),qGx,e2]at hc;exact J _ y c hy hc
    have hm:=u.own id (some (.miter b' [left[j]] (left.take j++left.drop (j+1)))) Y (λc hc=>by cases hc;exact⟨_,U,rfl⟩) (λr c h1 h2=>by cases h1;cases h2;exact .inr ⟨_,U,rfl⟩) (λm r h1=>by
     cases h1;exact⟨some Q,since,clock,seen.push e.born,Z,m _ _ hgood⟩)
    refine⟨_,_, .tup [.v (.bool true), .any, .any],_,_,by simp only[execOp,ho,hq,qF0,l,qFR,qF9], .inl rfl,hm, .tup [.bool true,e.key,e.val] _ rfl (λk y c h1 h2=>by
     match k with
     | 0=>simp at h1 h2;subst h1;subst h2;exact .bool _
     | 1=>simp at h1 h2;subst h1;subst h2;exact .any _
     | 2=>simp at h1 h2;subst h1;subst h2;exact .any _
     |k+3=>simp at h1),h2 _ _ _ hds⟩
 ·rename_i b' m xm clock seen U;obtain⟨rfl,A⟩:=A;unfold LZ at A;split at A
  ·rename_i x' es st d hM;obtain⟨rfl,rfl,h0,h1⟩:=A;obtain⟨S,rfl,W⟩:=u.sat.ok id _ U;obtain⟨Q,t,hbm,hb,F,rfl,N⟩:=u.sat.ok m _ hM;cases hbm;have h3:(leftOf t seen.toArray).toList=jJ t seen.toArray:=by simp[leftOf,jJ]
   rcases run_next_at (P:=P) w o.type b' S d d seen.toArray t d W hb F.1 (qFH _)with⟨hz,l⟩|⟨e,he,w1,L,l⟩
   ·have hm:=u.own m (some (.mrow (.map (some S)) es)) (gG w none) (λc hc=>by cases hc) (λr c p C=>by cases p;exact .inr ⟨_,hM,C⟩) (λmv r p=>by
     cases p;exact⟨S,t,d,rfl,hb,F,N.1,λk e c he hc=>mv _ _ (N.2 k e c he hc)⟩)
    refine⟨_,_, .tup [.v (.bool false)],_,w,by simp only[execOp,ho,hq,qF0,l,qFR,qF9], .inl rfl,hm, .tup [.bool false] [.v (.bool false)] rfl (λk y c p C=>by
     match k with
     | 0=>simp at p C;subst p;subst C;exact .bool _
     |k+1=>simp at p),h0 λs hs=>?_⟩
    have h4:jJ t seen.toArray=[]:=qGo.1 (by rw[<-h3,qGm];exact hz);obtain⟨e,he,rfl⟩:=qFL.1 hs;have h5:=List.filter_eq_nil_iff.1 h4 e he;simpa using h5
   ·rw[h3]at he;obtain⟨he1,he2⟩:=qGA.1 he;have hns:e.born∉seen:=by simpa using he2
    have Y:GrB w (setBlock w1 b' (.mapIter (some S) d (seen.toArray.push e.born) d)) (some b'):=by
     rcases L with rfl|rfl
     ·exact AH _ _ _
     ·have:=AH w.drew b' (.mapIter (some S) d (seen.toArray.push e.born) d);exact⟨⟨rfl,rfl,rfl,this.size,this.block⟩,qGV _⟩
    have Z:(setBlock w1 b' (.mapIter (some S) d (seen.toArray.push e.born) d)).heap[b']? =some (.mapIter (some S) d (seen.toArray.push e.born) d):=by
     rcases L with rfl|rfl
     ·exact wa _ W
     ·exact wa (w:=w.drew) _ W
    have hm:=u.own id (some (.raw (.mit b' m (.map (some S)) d (seen++ [e.born])))) Y (λc hc=>by cases hc;exact⟨_,U,rfl⟩) (λr c p C=>by cases p;cases C;exact .inr ⟨_,U,rfl⟩) (λmv r p=>by
     cases p;exact⟨S,rfl,by rw[Z];simp⟩)
    refine⟨_,_, .tup [.v (.bool true), .any, .any],_,_,by simp only[execOp,ho,hq,qF0,l,qFR,qF9], .inl rfl,hm, .tup [.bool true,e.key,e.val] _ rfl (λk y c p C=>by
     match k with
     | 0=>simp at p C;subst p;subst C;exact .bool _
     | 1=>simp at p C;subst p;subst C;exact .any _
     | 2=>simp at p C;subst p;subst C;exact .any _
     |k+3=>simp at p),h1 _ (qFL.2 ⟨e,he1,rfl⟩) hns⟩
  ·exact A.elim
 grind
def KV{b c:Type}(f:b->c):∀(l:List b) (i:Nat),(l.eraseIdx i).map f=(l.map f).eraseIdx i
 | [],i=>by simp
 |a::l,0=>by simp
 |a::l,i+1=>by simp[KV f l i]
theorem qru{t kt et S:TypeId}{c:Call}{x k:Operand}{ka:Bool}{ks:List KK}{K:D->ab->Prop}(U:StW E tp H w)(ho:o.op= .call c)(hc:c.callee= .builtin .delete)(W:c.argTypes.toList=[t,S])(u:c.args.toList=[x,k])(ht:P.underlying t=some (.map kt et))(J:KeyT P kt ka ks)
 (hx:R tp (aR E.O tp H w) w (a.eval x) (ev σ x)) (hk:R tp (aR E.O tp H w) w (a.eval k) (ev σ k)) (Q:bK (.m (.del ka ks) [x,k]) o.dst σ H K):dj P o a E tp H w K:=by
 obtain⟨cl,⟨args⟩,⟨ats⟩⟩:=c;simp only at W u hc;subst W;subst u;subst hc;simp only[bK,qF6,qGX]at Q;generalize hq:a.eval x=q at hx;generalize hxd:ev σ x=xd at hx Q;cases xd<;>try (exact Q.elim)
 rename_i id xv;cases hx;simp only[ip]at Q;split at Q
 ·rename_i x' es st clock hH;obtain⟨rfl,C,hfk,hup,hno⟩:=Q;obtain⟨b,d,rfl,hb,L,rfl,l⟩:=U.sat.ok _ _ hH;have Y:=V9 hfk hk;have Z:∀em,(Instr.checkKey em 10000 kt (a.eval k)).run P w= .ok () w:=λem=>by
   obtain⟨xs,h1,h2⟩:=Y;rw[h1];exact qvX em 50 kt ks ka J.c J.a 9950 xs h2
  obtain⟨r,hr,M⟩:=Wc (P:=P) J Y d.toList (Wh l C);have F:∀ob:Obj,(setObj b ob).run P w= .ok () (setBlock w b ob):=λob=>by grind [StW,KeyT,setObj,Sem.run,setBlock]
  have fin:∀(p:Array MapEntry) (es':List D) (A:List Nat),(∀ty,(Builtin.delete_ #[t,S] ty #[.map (some b),a.eval k]).run P w= .ok (.tuple #[]) (setBlock w b (.map p clock)))->ga p clock->p.toList.map (·.born)=A->
   Cs (R tp (aR E.O tp H w) w) p es'->K (.tup []) (ai H id (some (.raw (.mrs (.map (some b)) es' A clock))))->dj P o a E tp H w K:=by
   intro p es' A hrun hbo' hst' s hK;have hm:=U.own id (some (.raw (.mrs (.map (some b)) es' A clock))) (AH w b (.map p clock)) (λc hc=>by cases hc;exact⟨_,hH,rfl⟩) (λr c k1 k2=>by cases k1;cases k2;exact .inr ⟨_,hH,rfl⟩) (λmv r k1=>by
    cases k1;exact⟨b,p,rfl,wa _ hb,hbo',hst',s.1,λk e c he hc=>mv _ _ (s.2 k e c he hc)⟩)
   refine⟨.value (.tuple #[]), .tuple #[], .tup [],_,_,?_, .inl rfl,hm, .tup [] [] rfl (λk x c h=>by simp),hK⟩;simp_all [execOp,resolve,invoke,builtin]
  rcases M with⟨rfl,hne⟩|⟨j,e,rfl,hj,hke⟩
  ·refine fin d es _ (λty=>?_) L rfl l (hno λhp v' hmem=>?_)
   ·simp[Builtin.delete_,run_underlying ht,getObj,Sem.run,hb,Z,hr,F]
   ·obtain⟨i,hi⟩:=qF3.1 hmem;have hlt:i<d.size:=by rw[l.1];grind
    have hR:=l.2 i d[i] _ (by simp) hi;exact hne d[i] (by simp) (Vc hp hR.ent.1 hk)
  ·have hj':d[j]? =some e:=by simpa using hj
   have hjl:j<d.size:=(qFN.1 hj').1;obtain⟨c,hc,hR⟩:=Ep l hj';obtain⟨k',v',rfl,_⟩:=Jl (qFI.1 C c (qFF hc));have hl:(d.eraseIdxIfInBounds j).toList=d.toList.eraseIdx j:=by simp[Array.eraseIdxIfInBounds,hjl]
   refine fin (d.eraseIdxIfInBounds j) (es.eraseIdx j) ((d.toList.map (·.born)).eraseIdx j) (λty=>?_) ⟨λe he=>?_,?_⟩ ?_ ⟨?_,λi e2 c2 he y=>?_⟩ (hup j k' v' hc ⟨tp,aR E.O tp H w,w,a.eval k,hk,by rw[<-hke];exact hR.ent.1⟩)
   ·simp[Builtin.delete_,run_underlying ht,getObj,Sem.run,hb,Z,hr,F]
   ·rw[hl]at he;exact L.1 e (List.mem_of_mem_eraseIdx he)
   ·rw[hl,KV];exact L.2.sublist (List.eraseIdx_sublist _ _)
   ·rw[hl,KV]
   ·rw[<-qGm,hl,List.length_eraseIdx,List.length_eraseIdx,qGm,l.1]
   ·rw[<-qFZ,hl,List.getElem?_eraseIdx]at he;rw[List.getElem?_eraseIdx]at y;split at he
    ·rename_i N;rw[if_pos N]at y;exact l.2 i e2 c2 (by simpa using he) y
    ·rename_i N;rw[if_neg N]at y;exact l.2 (i+1) e2 c2 (by simpa using he) y
 grind
end
section
variable {P:Program}{im:List Nat}{o:Oper}{c:COp}{a:Act}{E:CO}{tp:Nat->Prop}{H:ab}{w:World}{σ:Sg}
def pG(hc:da P im o=some c):o.op.operands.toList.all CG=true:=by
 grind [da]
theorem qbZ{K:D->Prop}{Hr:ab}(hc:da P im o=some c)(A:c.isRead=true)(W:StW E tp H w)(hr:∀t,R tp (aR E.O tp H w) w (a.tmps.getD t undef) (σ t))
 (S:∀i r,Hr i=some r->H i=some r) (j:am c σ Hr K):GoodN P o a E tp H w K:=by
 have hops:=pG hc;have J:∀i r,H i=some r->ResOk (R tp (aR E.O tp H w) w) w r:=W.sat.ok;unfold da at hc;rw[if_neg (by grind)]at hc;have h:∀x,x∈o.op.operands->R tp (aR E.O tp H w) w (a.eval x) (ev σ x):=λx L=>qcz hr x (qFI.1 hops x (by grind))
 cases d:o.op with
 | move x=>
   simp only[d]at hc;cases hc;exact(qeg (.inl d) (h x (by grind [StW,Op.operands])) j).toN
 | assign x=>
   simp only[d]at hc;cases hc;exact(qeg (.inr d) (h x (by grind [StW,Op.operands])) j).toN
 | pick q x y=>
   simp only[d]at hc;cases hc;exact(qgB d (h q (by simp[d,Op.operands])) (h x (by simp[d,Op.operands])) (h y (by simp[d,Op.operands])) j).toN
 | alloc el=>
   simp only[d,qFD,qFA,qFQ]at hc;obtain⟨z,_,rfl⟩:=hc;simp[COp.isRead]at A
 | box el x=>
   simp only[d]at hc;split at hc
   ·cases hc;cases A
   cases hc;cases hcon:qkQ im o.dst with
   |false=>rw[hcon]at A;cases A
   | true=>
     rw[hcon]at j;exact qgI W d (h x (by simp[d,Op.operands])) j
 | build t parts=>
   simp only[d,qFD,qFA]at hc;obtain⟨z,hz,hc⟩:=hc;split at hc
   ·rename_i fs C;obtain⟨ps,M,hc⟩:=qFA.1 hc;split at hc
    ·rename_i hall;cases hc;exact(qcs d hz C (by simpa using M) hall (λp hp=>h p.2 (by
      simp only[d,Op.operands];simp only[List.mem_toArray,qFL];exact⟨p,hp,rfl⟩)) j).toN
    ·cases hc
   ·rename_i len el C;simp only[qFA]at hc;obtain⟨sz,hs,ps,M,hc⟩:=hc;cases hc;exact(ZJ d hz C hs M (λp hp=>h p.2 (by
     simp only[d,Op.operands];simp only[List.mem_toArray,qFL];exact⟨p,hp,rfl⟩)) j).toN
   ·cases hc
 | buildSlice t len parts=>
   simp only[d,qFD]at hc;split at hc
   ·rename_i el C;simp only[qFA]at hc;obtain⟨n,hn,z,hz,ps,M,hc⟩:=hc;split at hc
    ·rename_i U;simp only[qFJ,decide_eq_true_eq]at U;split at hc
     ·cases hc;simp[COp.isRead]at A
     ·rename_i hl0;split at hc
      ·cases hc;simp[COp.isRead]at A
      cases hc;refine ZK W d C hn hz M U.1 U.2 hl0 (λx L=>h x ?_) j;unfold zV at M;split at M
      ·cases M;simp only[d,Op.operands];simpa using L
      ·cases M
    ·cases hc
   ·cases hc
 | insert t m k v=>
   simp only[d]at hc;split at hc
   ·simp only[qFD,qFA]at hc;obtain⟨⟨ka,ks⟩,Z,hc⟩:=hc;cases hc;simp[COp.isRead,MOp.isRead]at A
   ·cases hc
 | load t x=>
   simp only[d,qFD,qFA]at hc;obtain⟨agg,ha,sz,hs,hc⟩:=hc;split at hc
   ·rename_i h1;cases hc;exact(Tm d ha hs (by simpa using h1) (h x (by simp[d,Op.operands])) S J j).toN
   ·cases hc
 | store t x y=>
   simp only[d,qFD,qFA,qFQ]at hc;obtain⟨z,_,rfl⟩:=hc;simp[COp.isRead]at A
 |ready g=>simp[d]at hc
 |waits g=>simp[d]at hc
 | nilCheck x=>
   simp only[d]at hc;cases hc;exact(qco d (h x (by simp[d,Op.operands])) j).toN
 | binOp op t x y u=>
   simp only[d]at hc;have L:=h x (by simp[d,Op.operands]);have Q:=h y (by simp[d,Op.operands]);split at hc
   ·split at hc
    ·cases hc;exact(jl d (.inl rfl) L Q j).toN
    ·split at hc
     ·cases hc;exact(qgz d L Q j).toN
     ·cases hc
   ·split at hc
    ·cases hc;exact(jl d (by simp) L Q j).toN
    ·cases hc
   ·split at hc
    ·cases hc;exact(jl d (by simp) L Q j).toN
    ·cases hc
   ·split at hc
    ·cases hc;exact(jl d (by simp) L Q j).toN
    ·cases hc
   ·split at hc
    ·cases hc;exact(jl d (by simp) L Q j).toN
    ·cases hc
   ·split at hc
    ·cases hc;exact(jl d (by simp) L Q j).toN
    ·cases hc
   ·split at hc
    ·cases hc;exact(jl d (by simp) L Q j).toN
    ·cases hc
   ·split at hc
    ·cases hc;exact(jl d (by simp) L Q j).toN
    ·cases hc
   ·split at hc
    ·cases hc;exact(jl d (by simp) L Q j).toN
    ·cases hc
   iterate 4
    ·split at hc
     ·cases hc;exact(ZI d L Q j).toN
     ·split at hc
      ·cases hc;exact(ZI d L Q j).toN
      ·cases hc
   ·exact(ZH (neg:=false) (by simpa using d) hc L Q j).toN
   ·exact(ZH (neg:=true) (by simpa using d) hc L Q j).toN
   ·cases hc
 | unOp op t x=>
   cases op<;>simp only[d]at hc<;>cases hc
   ·exact(qka d (h x (by simp[d,Op.operands])) j).toN
   ·exact(qj9 d (h x (by simp[d,Op.operands])) j).toN
 | convert s t x=>
   simp only[d]at hc;split at hc
   ·rename_i k0 k h1 h2;cases hc;exact(qgG d h1 h2 (h x (by simp[d,Op.operands])) j).toN
   ·rename_i k0 h1 h2;cases hc;exact(qgA d h1 h2 (h x (by simp[d,Op.operands])) j).toN
   ·rename_i el h1 h2;split at hc
    ·rename_i h3;cases hc;exact ZE W d h1 h2 h3 (h x (by simp[d,Op.operands])) j
    ·rename_i h3;cases hc;exact ZD W d h1 h2 h3 (h x (by simp[d,Op.operands])) j
    ·cases hc
   ·rename_i el h1 h2;split at hc
    ·rename_i h3;cases hc;exact(qgH d h1 h2 h3 (h x (by simp[d,Op.operands])) S J j).toN
    ·cases hc
   ·cases hc
 |sliceToArrayPointer t x=>simp[d]at hc
 | makeInterface t x=>
   simp only[d]at hc;split at hc
   ·split at hc
    ·rename_i fs ht;cases hc;exact(qgD d ht (h x (by simp[d,Op.operands])) j).toN
    ·cases hc
   ·cases hc;exact False.elim j
 | makeFunc fn first caps=>
   cases fn<;>simp only[d]at hc<;>try (cases hc;done)
   split at hc
   ·rename_i hf;cases hc;exact(qke d hf (λx L=>h x (by simp only[d,Op.operands];simp;right;simpa using L)) j).toN
   ·cases hc
 | makeMap t r=>
   cases r with
   |some r=>simp[d]at hc
   |none=>simp only[d]at hc;cases hc;simp[COp.isRead,MOp.isRead]at A
 |makeChan t r=>simp[d]at hc
 | makeSlice t l k=>
   simp only[d,qFD]at hc;split at hc
   ·simp only[qFA]at hc;obtain⟨n,hn,z,hz,agg,ha,hc⟩:=hc;split at hc
    ·cases hc;simp[COp.isRead]at A
    ·cases hc
   ·cases hc
 | slice t x lo hi mx=>
   cases mx with
   |some m=>simp[d]at hc
   | none=>
     simp only[d,qFD]at hc;have L:=h x (by simp[d,Op.operands]);have hlo:∀y,lo=some y->R tp (aR E.O tp H w) w (a.eval y) (ev σ y):=λy Q=>h y (by subst Q;simp[d,Op.operands])
     have hhi:∀y,hi=some y->R tp (aR E.O tp H w) w (a.eval y) (ev σ y):=λy Q=>h y (by subst Q;simp[d,Op.operands])
     split at hc
     ·rename_i el C;simp only[qFA,qFQ]at hc;obtain⟨n,hn,rfl⟩:=hc;exact(qcn d C hn L hlo hhi S J j).toN
     ·rename_i C;cases hc;exact(ZC d C L hlo hhi j).toN
     ·cases hc
 | fieldAddr t x f=>
   simp only[d,qFD]at hc;split at hc
   ·rename_i fs C;simp only[qFA]at hc;obtain⟨fd,hf,sz,hs,hc⟩:=hc;split at hc
    ·rename_i h0;cases hc;exact(qcq d C hf hs h0 (h x (by simp[d,Op.operands])) j).toN
    ·cases hc
   ·cases hc
 | field t x f=>
   simp only[d,qFD]at hc;split at hc
   ·rename_i fs C;simp only[qFA]at hc;obtain⟨fd,hf,agg,ha,sz,hs,hc⟩:=hc;split at hc
    ·rename_i h1;cases hc;exact(qkc d C hf ha hs (by simpa using h1) (h x (by simp[d,Op.operands])) j).toN
    ·cases hc
   ·cases hc
 | indexAddr t x i=>
   simp only[d,qFD]at hc;split at hc
   ·rename_i el C;simp only[qFA,qFQ]at hc;obtain⟨n,hn,rfl⟩:=hc;exact(qcp d C hn (h x (by simp[d,Op.operands])) (h i (by simp[d,Op.operands])) S J j).toN
   ·rename_i len el C;split at hc
    ·simp only[qFA]at hc;obtain⟨sz,hs,hc⟩:=hc;split at hc
     ·rename_i h0;cases hc;exact(qct d C hs h0 (h x (by simp[d,Op.operands])) j).toN
     ·cases hc
    ·simp only[qFA,qFQ]at hc;obtain⟨sz,hs,rfl⟩:=hc;exact(qgJ d C hs (h x (by simp[d,Op.operands])) (h i (by simp[d,Op.operands])) j).toN
   ·cases hc
 | index t x i=>
   simp only[d]at hc;split at hc
   ·rename_i C;cases hc;exact(qgy d C (h x (by simp[d,Op.operands])) (h i (by simp[d,Op.operands])) j).toN
   ·cases hc
 | lookup t x i b=>
   simp only[d]at hc;split at hc
   ·rename_i kt et C;simp only[qFD,qFA]at hc;obtain⟨⟨ka,ks⟩,Z,z,hz,agg,ha,hc⟩:=hc;split at hc
    ·rename_i hag;cases hc;exact(qgE d C (E7 Z) hz hag (h x (by simp[d,Op.operands])) (h i (by simp[d,Op.operands])) S J j).toN
    ·cases hc
   ·cases hc
 | mapUpdate t m k v=>
   simp only[d]at hc;split at hc
   ·simp only[qFD,qFA]at hc;obtain⟨⟨ka,ks⟩,Z,hc⟩:=hc;cases hc;simp[COp.isRead,MOp.isRead]at A
   ·cases hc
 |mapEntry t m k=>simp[d]at hc
 |entryStore t m k v=>simp[d]at hc
 | range t x=>
   simp only[d]at hc;split at hc
   ·cases hc;simp[COp.isRead]at A
   ·cases hc;simp[COp.isRead,MOp.isRead]at A
   ·cases hc
 | next x b=>
   cases b with
   |false=>simp only[d]at hc;cases hc;simp[COp.isRead,MOp.isRead]at A
   | true=>
     simp only[d]at hc;cases hc;simp[COp.isRead]at A
 | entry x=>
   simp only[d]at hc;cases hc;exact(qcr d (h x (by simp[d,Op.operands])) S J j).toN
 |typeAssert x s t b=>simp[d]at hc
 | extract x i=>
   simp only[d]at hc;cases hc;exact(qkd d (h x (by simp[d,Op.operands])) j).toN
 | call q=>
   have I:∀x∈q.args.toList,R tp (aR E.O tp H w) w (a.eval x) (ev σ x):=λx L=>h x (by
    simp only[d,Op.operands,Call.operands];simp;right;simpa using L)
   simp only[d]at hc;split at hc
   ·split at hc<;>cases hc;rw[qaq]at A;cases A
   ·cases hc;simp[COp.isRead]at A
   ·rename_i F;split at hc
    ·rename_i t x Y N;split at hc
     ·rename_i el C;cases hc;exact(qkb d F Y N C (I x (by rw[N];simp)) S J j).toN
     ·rename_i C;cases hc;exact(qgx d F Y N C (I x (by rw[N];simp)) j).toN
     ·rename_i kt et C;cases hc;exact(qgC d F Y N C (I x (by rw[N];simp)) S J j).toN
     ·cases hc
    ·cases hc
   ·rename_i F;cases hc;exact(qeh (mx:=false) d (by simpa using F) I j).toN
   ·rename_i F;cases hc;exact(qeh (mx:=true) d (by simpa using F) I j).toN
   ·split at hc
    ·split at hc
     ·split at hc
      ·simp only[qFD,qFA]at hc;obtain⟨n,hn,z,hz,hc⟩:=hc;split at hc
       ·cases hc;simp[COp.isRead]at A
       ·cases hc
      ·cases hc
     ·split at hc
      ·simp only[qFD,qFA]at hc;obtain⟨n,hn,z,hz,agg,ha,hc⟩:=hc;split at hc
       ·cases hc;simp[COp.isRead]at A
       ·cases hc
      ·simp only[qFD,qFA]at hc;obtain⟨n,hn,z,hz,hc⟩:=hc;split at hc
       ·cases hc;simp[COp.isRead]at A
       ·cases hc
      ·cases hc
    ·cases hc
   ·split at hc
    ·split at hc
     ·simp only[qFD,qFA]at hc;obtain⟨n,hn,z,hz,agg,ha,hc⟩:=hc;split at hc
      ·cases hc;simp[COp.isRead]at A
      ·cases hc
     ·cases hc
    ·cases hc
   ·split at hc
    ·split at hc
     ·split at hc
      ·simp only[qFD,qFA]at hc;obtain⟨n,hn,hc⟩:=hc;split at hc
       ·cases hc;simp[COp.isRead]at A
       ·cases hc
      ·cases hc
     ·cases hc
    ·cases hc
   ·rename_i F;split at hc
    ·rename_i t x Y N;split at hc
     ·rename_i el C;cases hc;exact(qkf d F Y N C (I x (by rw[N];simp)) j).toN
     ·cases hc
    ·cases hc
   ·split at hc
    ·split at hc
     ·simp only[qFD,qFA]at hc;obtain⟨⟨ka,ks⟩,Z,hc⟩:=hc;cases hc;simp[COp.isRead,MOp.isRead]at A
     ·cases hc
    ·cases hc
   ·cases hc
 |go q=>simp[d]at hc
 |defer q=>simp[d]at hc
 | panic x=>
   simp only[d]at hc;split at hc
   ·cases hc;simp[COp.isRead]at A
   ·cases hc;exact False.elim j
 |send x y=>simp[d]at hc
 |recv t x b=>simp[d]at hc
 |select cs b=>simp[d]at hc
def qfX{K:D->ab->Prop}(b:c.isRead=true)(h:bK c o.dst σ H K):am c σ H λd=>K d H:=by
 cases c<;>first|exact h|(simp[COp.isRead]at b;done)|skip
 ·rename_i el im x;cases im<;>simp_all [bK,COp.isRead]
 ·rename_i j xs;cases j<;>first|(simp[COp.isRead,MOp.isRead]at b;done)|exact h
theorem qjf{K:D->ab->Prop}(hc:da P im o=some c)(W:c.isCall=false)(I:StW E tp H w)(hr:∀t,R tp (aR E.O tp H w) w (a.tmps.getD t undef) (σ t))
 (C:bK c o.dst σ H K):dj P o a E tp H w K:=by
 by_cases p:c.isRead=true
 ·exact GoodN.og I (qbZ hc p I hr (λ_ _ h=>h) (qfX p C)) (λd h=>h)
 ·have hops:=pG hc;unfold da at hc;rw[if_neg (by grind)]at hc;have L:∀x,x∈o.op.operands->R tp (aR E.O tp H w) w (a.eval x) (ev σ x):=λx Z=>qcz hr x (qFI.1 hops x (by grind))
  cases j:o.op with
  | alloc el=>
    simp only[j,qFD,qFA,qFQ]at hc;obtain⟨z,hz,rfl⟩:=hc;simp only[bK]at C;split at C
    ·exact qjq I j hz C
    grind
  | box el x=>
    simp only[j]at hc;split at hc
    ·cases hc;simp only[bK]at C;split at C
     ·exact qrs I j (L x (by simp[j,Op.operands])) C.1 C.2
     ·exact C.elim
    cases hc;cases Y:qkQ im o.dst with
    |true=>rw[Y]at p;exact absurd rfl p
    |false=>
    rw[Y]at C;simp only[bK]at C;split at C
    ·exact qrv I j (L x (by simp[j,Op.operands])) C.1 C.2
    ·exact C.elim
  | buildSlice t len parts=>
    simp only[j,qFD]at hc;split at hc
    ·rename_i el Q;simp only[qFA]at hc;obtain⟨n,hn,z,hz,ps,N,hc⟩:=hc;split at hc
     ·rename_i A;split at hc
      ·rename_i hl0;subst hl0;cases hc;simp only[bK]at C;have:ps=[]:=by
        unfold zV at N;split at N
        ·rename_i h;have h':parts.toList=[]:=by simpa using h
         rw[h']at N;simpa using N.symm
        ·cases N
       subst this;split at C
       ·exact qf4 I j Q hn hz N C
       ·exact C.elim
      ·rename_i hl0;simp only[qFJ,decide_eq_true_eq]at A;split at hc
       ·cases hc;simp only[bK]at C;split at C
        ·refine qf5 I j Q hn hz N A.1 A.2 hl0 (λx Z=>L x ?_) C.1 C.2;unfold zV at N;split at N
         ·cases N;simp only[j,Op.operands];simpa using Z
         ·cases N
        ·exact C.elim
       ·cases hc;simp[COp.isRead]at p
     ·cases hc
    ·cases hc
  | store t x y=>
    simp only[j,qFD,qFA,qFQ]at hc;obtain⟨sz,hs,rfl⟩:=hc;exact qjm I j hs (L x (by simp[j,Op.operands])) (L y (by simp[j,Op.operands])) C
  | makeSlice t l k=>
    simp only[j,qFD]at hc;split at hc
    ·rename_i el Q;simp only[qFA]at hc;obtain⟨n,hn,z,hz,agg,ha,hc⟩:=hc;split at hc
     ·rename_i A;simp only[qFJ,decide_eq_true_eq]at A;cases hc;simp only[bK]at C;split at C
      ·split at C
       ·rename_i e1 e2;have h1:=L l (by simp[j,Op.operands]);have h2:=L k (by simp[j,Op.operands]);rw[EO e1]at h1;rw[EO e2]at h2;obtain⟨h0,hlc,hb,h63,hk⟩:=C;exact qb9 I j Q hn hz A.1 (by simpa using A.2) h1.inv_v h2.inv_v h0 hlc hb h63 hk
       ·exact C.elim
      ·exact C.elim
     ·cases hc
    ·cases hc
  | call q=>
    have F:∀x∈q.args.toList,R tp (aR E.O tp H w) w (a.eval x) (ev σ x):=λx Z=>L x (by
     simp only[j,Op.operands,Call.operands];simp;right;simpa using Z)
    simp only[j]at hc;split at hc
    ·split at hc<;>cases hc;rw[qar]at W;cases W
    ·cases hc;simp[COp.isCall]at W
    ·split at hc
     ·split at hc
      ·cases hc;simp[COp.isRead]at p
      ·cases hc;simp[COp.isRead]at p
      ·cases hc;simp[COp.isRead,MOp.isRead]at p
      ·cases hc
     ·cases hc
    ·cases hc;simp[COp.isRead]at p
    ·cases hc;simp[COp.isRead]at p
    ·rename_i M;split at hc
     ·rename_i t u x y S J;split at hc
      ·rename_i htu;subst htu;split at hc
       ·rename_i el Q;simp only[qFD,qFA]at hc;obtain⟨n,hn,z,hz,hc⟩:=hc;split at hc
        ·rename_i h0;cases hc;exact ST I j M S J Q (.inl ⟨_,Q⟩) hn hz rfl h0 (F x (by rw[J];simp)) (F y (by rw[J];simp)) C
        ·cases hc
       ·cases hc
      ·split at hc
       ·rename_i el kn Q hu2;simp only[qFD,qFA]at hc;obtain⟨n,hn,z,hz,agg,ha,hc⟩:=hc;split at hc
        ·rename_i A;simp only[qFJ,decide_eq_true_eq]at A;cases hc;exact qjp I j M S J Q hu2 hn hz A.1 (by simpa using A.2) (F x (by rw[J];simp)) (F y (by rw[J];simp)) C
        ·cases hc
       ·rename_i el Q hu2;simp only[qFD,qFA]at hc;obtain⟨n,hn,z,hz,hc⟩:=hc;split at hc
        ·rename_i h0;cases hc;exact ST I j M S J Q (.inr hu2) hn hz rfl (by omega) (F x (by rw[J];simp)) (F y (by rw[J];simp)) C
        ·cases hc
       ·cases hc
     ·cases hc
    ·rename_i M;split at hc
     ·rename_i t x S J;split at hc
      ·rename_i el Q;simp only[qFD,qFA]at hc;obtain⟨n,hn,z,hz,agg,ha,hc⟩:=hc;split at hc
       ·rename_i A;simp only[qFJ,decide_eq_true_eq]at A;cases hc;exact qjo I j M S J Q hn hz A.1 (by simpa using A.2) (F x (by rw[J];simp)) C
       ·cases hc
      ·cases hc
     ·cases hc
    ·rename_i M;split at hc
     ·rename_i t u x y S J;split at hc
      ·rename_i htu;subst htu;split at hc
       ·rename_i el Q;simp only[qFD,qFA]at hc;obtain⟨n,hn,hc⟩:=hc;split at hc
        ·rename_i h0;cases hc;exact qnE I j M S J Q hn h0 (F x (by rw[J];simp)) (F y (by rw[J];simp)) C
        ·cases hc
       ·cases hc
      ·cases hc
     ·cases hc
    ·split at hc
     ·split at hc
      ·cases hc;simp[COp.isRead]at p
      ·cases hc
     ·cases hc
    ·rename_i M;split at hc
     ·rename_i t u x y S J;split at hc
      ·rename_i kt et Q;simp only[qFD,qFA]at hc;obtain⟨⟨ka,ks⟩,U,hc⟩:=hc;cases hc;exact qru I j M S J Q (E7 U) (F x (by rw[J];simp)) (F y (by rw[J];simp)) C
      ·cases hc
     ·cases hc
    ·cases hc
  |move x=>simp only[j]at hc;cases hc;simp[COp.isRead]at p
  |assign x=>simp only[j]at hc;cases hc;simp[COp.isRead]at p
  |pick q x y=>simp only[j]at hc;cases hc;simp[COp.isRead]at p
  | build t parts=>
    simp only[j,qFD,qFA]at hc;obtain⟨z,hz,hc⟩:=hc;split at hc
    ·obtain⟨ps,N,hc⟩:=qFA.1 hc;split at hc
     ·cases hc;simp[COp.isRead]at p
     ·cases hc
    ·simp only[qFA]at hc;obtain⟨sz,hs,ps,N,hc⟩:=hc;cases hc;simp[COp.isRead]at p
    ·cases hc
  | insert t m k v=>
    simp only[j]at hc;split at hc
    ·rename_i kt et Q;simp only[qFD,qFA]at hc;obtain⟨⟨ka,ks⟩,U,hc⟩:=hc;cases hc;exact qjl I (.inr j) Q (E7 U) (L m (by simp[j,Op.operands])) (L k (by simp[j,Op.operands])) (L v (by simp[j,Op.operands])) C
    ·cases hc
  | load t x=>
    simp only[j,qFD,qFA]at hc;obtain⟨agg,ha,sz,hs,hc⟩:=hc;split at hc
    ·cases hc;simp[COp.isRead]at p
    ·cases hc
  |ready g=>simp[j]at hc
  |waits g=>simp[j]at hc
  |nilCheck x=>simp only[j]at hc;cases hc;simp[COp.isRead]at p
  | binOp op t x y u=>
    exfalso;simp only[j]at hc;unfold pH at hc
    (repeat' split at hc)<;>first
      |(cases hc;done)
      |(cases hc;simp[COp.isRead]at p;done)
      | (cases hks:BY P t with
         |none=>simp[hks]at hc
         |some ks=>simp[hks]at hc;subst hc;simp[COp.isRead]at p)
  | unOp op t x=>
    exfalso;cases op<;>simp only[j]at hc<;>first|(cases hc;done)|(cases hc;simp[COp.isRead]at p;done)
  | convert s t x=>
    simp only[j]at hc;split at hc
    ·cases hc;simp[COp.isRead]at p
    ·cases hc;simp[COp.isRead]at p
    ·split at hc
     ·cases hc;simp[COp.isRead]at p
     ·cases hc;simp[COp.isRead]at p
     ·cases hc
    ·split at hc
     ·cases hc;simp[COp.isRead]at p
     ·cases hc
    ·cases hc
  |sliceToArrayPointer t x=>simp[j]at hc
  | makeInterface t x=>
    simp only[j]at hc;split at hc
    ·split at hc
     ·cases hc;simp[COp.isRead]at p
     ·cases hc
    ·cases hc;simp[COp.isRead]at p
  | makeFunc fn first caps=>
    cases fn<;>simp only[j]at hc<;>try (cases hc;done)
    split at hc
    ·cases hc;simp[COp.isRead]at p
    ·cases hc
  | makeMap t r=>
    cases r with
    |some r=>simp[j]at hc
    | none=>
      simp only[j]at hc;cases hc;simp only[bK,ip,qGX]at C;split at C
      ·exact quJ I j C
      ·exact C.elim
  |makeChan t r=>simp[j]at hc
  | slice t x lo hi mx=>
    cases mx with
    |some m=>simp[j]at hc
    | none=>
      simp only[j,qFD]at hc;split at hc
      ·simp only[qFA,qFQ]at hc;obtain⟨n,hn,rfl⟩:=hc;simp[COp.isRead]at p
      ·cases hc;simp[COp.isRead]at p
      ·cases hc
  | fieldAddr t x f=>
    simp only[j,qFD]at hc;split at hc
    ·simp only[qFA]at hc;obtain⟨fd,hf,sz,hs,hc⟩:=hc;split at hc
     ·cases hc;simp[COp.isRead]at p
     ·cases hc
    ·cases hc
  | field t x f=>
    simp only[j,qFD]at hc;split at hc
    ·simp only[qFA]at hc;obtain⟨fd,hf,agg,ha,sz,hs,hc⟩:=hc;split at hc
     ·cases hc;simp[COp.isRead]at p
     ·cases hc
    ·cases hc
  | indexAddr t x i=>
    simp only[j,qFD]at hc;split at hc
    ·simp only[qFA,qFQ]at hc;obtain⟨n,hn,rfl⟩:=hc;simp[COp.isRead]at p
    ·split at hc
     ·simp only[qFA]at hc;obtain⟨sz,hs,hc⟩:=hc;split at hc
      ·cases hc;simp[COp.isRead]at p
      ·cases hc
     ·simp only[qFA,qFQ]at hc;obtain⟨sz,hs,rfl⟩:=hc;simp[COp.isRead,MOp.isRead]at p
    ·cases hc
  | index t x i=>
    simp only[j]at hc;split at hc
    ·cases hc;simp[COp.isRead]at p
    ·cases hc
  | lookup t x i b=>
    simp only[j]at hc;split at hc
    ·simp only[qFD,qFA]at hc;obtain⟨⟨ka,ks⟩,U,z,hz,agg,ha,hc⟩:=hc;split at hc
     ·cases hc;simp[COp.isRead,MOp.isRead]at p
     ·cases hc
    ·cases hc
  | mapUpdate t m k v=>
    simp only[j]at hc;split at hc
    ·rename_i kt et Q;simp only[qFD,qFA]at hc;obtain⟨⟨ka,ks⟩,U,hc⟩:=hc;cases hc;exact qjl I (.inl j) Q (E7 U) (L m (by simp[j,Op.operands])) (L k (by simp[j,Op.operands])) (L v (by simp[j,Op.operands])) C
    ·cases hc
  |mapEntry t m k=>simp[j]at hc
  |entryStore t m k v=>simp[j]at hc
  | range t x=>
    simp only[j]at hc;split at hc
    ·rename_i h1;cases hc;simp only[bK]at C;split at C
     ·rename_i t' s e1 e2;have Z:=L x (by simp[j,Op.operands]);rw[e2]at Z;exact qf3 I j h1 Z.inv_v C
     ·exact C.elim
    ·rename_i h1;cases hc;cases hd:o.dst with
     | none=>
       rw[hd]at C;simp only[bK,ip,qF6,qGX]at C
     |some t'=>exact qrt I j h1 (L x (by simp[j,Op.operands])) hd C
    ·cases hc
  | next x b=>
    cases b with
    | false=>
      simp only[j]at hc;cases hc;exact qnD I j (L x (by simp[j,Op.operands])) C
    | true=>
      simp only[j]at hc;cases hc;exact qjn I j (L x (by simp[j,Op.operands])) C
  |entry x=>simp only[j]at hc;cases hc;simp[COp.isRead,MOp.isRead]at p
  |typeAssert x s t b=>simp[j]at hc
  |extract x i=>simp only[j]at hc;cases hc;simp[COp.isRead]at p
  |go q=>simp[j]at hc
  |defer q=>simp[j]at hc
  | panic x=>
    simp only[j]at hc;split at hc
    ·cases hc;simp[COp.isCall]at W
    ·cases hc;simp[COp.isRead]at p
  |send x y=>simp[j]at hc
  |recv t x b=>simp[j]at hc
  |select cs b=>simp[j]at hc
end
variable {dq:Prop}
def dc(P:Program)(f:Nat):Prop:=∀(args:Array Value) (w:World),(callFunc f args).run P w= .ok (.enter f args) w
def qaT(dq:Prop)(O tp:Nat->Prop)(H:ab)(w:World)(K:D->ab->Prop)(e:Ending)(w':World):Prop:=
 ∃x r H' d,e= .returned x/\K r H'/\(∀b,tp b->d b)/\(∀b,d b->tp b\/w.heap.size<=b)/\(∀b,d b->b<w'.heap.size)/\
  Step dq tp (bA H) w w'/\(∀b,bA H' b->bA H b\/w.heap.size<=b)/\qtL O d H' w'/\R d (aR O d H' w') w' x r
def Tri(dq:Prop)(P:Program)(f:Nat)(A:PT):Prop:=
 ∀ (O tp:Nat->Prop) (w:World) (vs:List Value) (ds:List D) (H:ab) (d:Nat) (K:D->ab->Prop),
  (∀b,O b->b<w.heap.size)->TpG tp (bA H) w->qtL O tp H w->vs.length=ds.length->
  (∀(k:Nat) (x:Value) (c:D),vs[k]? =some x->ds[k]? =some c->R tp (aR O tp H w) w x c)->A d ds H K->
  dc P f/\Calls P f vs.toArray w (qaT dq O tp H w K)
def qwt(dq:Prop)(z:List PanicEntry->Prop)(O tp:Nat->Prop)(H:ab)(w:World)(K:D->ab->Prop)(e:Ending)(w':World):Prop:=
 qaT dq O tp H w K e w'\/ ∃c,e= .panicked c/\z c/\Step dq tp (bA H) w w'
def TriZ(dq:Prop)(z:List PanicEntry->Prop)(P:Program)(f:Nat)(A:PT):Prop:=
 ∀ (O tp:Nat->Prop) (w:World) (vs:List Value) (ds:List D) (H:ab) (d:Nat) (K:D->ab->Prop),
  (∀b,O b->b<w.heap.size)->TpG tp (bA H) w->qtL O tp H w->vs.length=ds.length->
  (∀(k:Nat) (x:Value) (c:D),vs[k]? =some x->ds[k]? =some c->R tp (aR O tp H w) w x c)->A d ds H K->
  dc P f/\Calls P f vs.toArray w (qwt dq z O tp H w K)
def Ze:List PanicEntry->Prop:=λ_=>False
def Tri.z{z:List PanicEntry->Prop}{P:Program}{f:Nat}{A:PT}(h:Tri dq P f A):TriZ dq z P f A:=λO tp w vs ds H d K h1 h2 h3 h4 h5 h6=>
 ⟨(h O tp w vs ds H d K h1 h2 h3 h4 h5 h6).1,(h O tp w vs ds H d K h1 h2 h3 h4 h5 h6).2.mono λ_ _ h=> .inl h⟩
def TriZ.no{P:Program}{f:Nat}{A:PT}(h:TriZ dq Ze P f A):Tri dq P f A:=λO tp w vs ds H d K h1 h2 h3 h4 h5 h6=>
 ⟨(h O tp w vs ds H d K h1 h2 h3 h4 h5 h6).1,(h O tp w vs ds H d K h1 h2 h3 h4 h5 h6).2.mono λ_ _ h=>h.elim id λ⟨_,_,h,_⟩=>h.elim⟩
def qcX(E:CO)(z:List PanicEntry->Prop)(c:List PanicEntry)(w':World):Prop:=z c/\Step E.dq E.tp0 E.own0 E.w0 w'
def StW.stepTo{E:CO}{tp:Nat->Prop}{H:ab}{w w':World}(h:StW E tp H w)(hs:Step E.dq tp (bA H) w w'):Step E.dq E.tp0 E.own0 E.w0 w':=by
 have k:E.w0.heap.size<=w.heap.size:=h.step.size;refine⟨hs.os.trans h.step.os,hs.tape.trans h.step.tape,hs.output.trans h.step.output,qGg k hs.size,λb hb ho j=>?_,λb hb=>(h.step.tapes b hb).trans (hs.tapes b (h.tpx b hb)),λq=>qGg (h.step.drawn q) (hs.drawn q)⟩;rw[hs.same b (by omega) (λd=>?_) (λl=>?_)]
 ·exact h.step.same b hb ho j
 ·rcases h.loc b d with h1|h1;grind;omega
 ·rcases h.tpn b l with h1|h1;grind;omega
def aA(S:Nat->Spc)(c:COp)(dst:Option Nat)(σ:Sg)(H:ab)(K:D->ab->Prop):Prop:=
 match c with
 | .call f args=>(S f).pt (dst.getD 0) (args.map (ev σ)) H K
 | .callb _ f args=>(S f).pt (dst.getD 0) (args.map (ev σ)) H K
 | .callv f args=>match ev σ f with
   | .clo g caps=>(S g).pt (dst.getD 0) (args.map (ev σ) ++caps) H K
   | _=>False
 |c=>bK c dst σ H K
def qwn(z:List PanicEntry->Prop)(P:Program)(A:PT):Prop:=P.funcs.size<=FR->∀(O tp:Nat->Prop) (w:World) (v:Value) (e:D) (H:ab) (d:Nat) (K:D->ab->Prop),
 (∀b,O b->b<w.heap.size)->TpG tp (bA H) w->qtL O tp H w->R tp (aR O tp H w) w v e->A d [e] H K->(∃t x,v= .iface t x)/\z [{ v:=v,recovered:=false }]
def CallOk(dq:Prop)(P:Program)(z:List PanicEntry->Prop)(S:Nat->Spc):COp->Prop
 | .call f _=>if f=FR then qwn z P (S FR).pt else TriZ dq z P f (S f).pt
 | .callv _ _=>∀g,TriZ dq z P g (S g).pt
 | .callb _ f _=>TriZ dq z P f (S f).pt
 | _=>True
def TriZ.up{z:List PanicEntry->Prop}{P:Program}{f:Nat}{A:PT}(h:TriZ dq Ze P f A):TriZ dq z P f A:=h.no.z
def CallOk.up{z:List PanicEntry->Prop}{P:Program}{S:Nat->Spc}{c:COp}(h:CallOk dq P Ze S c):CallOk dq P z S c:=by
 cases c<;>try exact trivial
 ·simp only[CallOk]at h ⊢;split
  ·rename_i e;rw[if_pos e]at h;exactλa O tp w v b H d K h1 h2 h3 h4 h5=>((h a O tp w v b H d K h1 h2 h3 h4 h5).2).elim
  ·rename_i e;rw[if_neg e]at h;exact h.up
 all_goals grind [CallOk,TriZ.up]
def qg1{P:Program}{S:Nat->Spc}(h:∀f,Tri dq P f (S f).pt)(c:COp):CallOk dq P Ze S c:=by
 cases c<;>try exact trivial
 ·rename_i f args;simp only[CallOk];split
  ·intro b O tp w v e H d K h1 h2 h3 h4 h5;obtain⟨_,hc⟩:=h FR O tp w [v] [e] H d K h1 h2 h3 rfl (λk x c q hc=>by
    grind) h5
   obtain⟨s,w',fr,j,_,l,hl⟩:=hc [];obtain⟨x,r,H',p,rfl,_⟩:=j;obtain⟨_,_,_,fn,t,_⟩:=hl;grind
  ·exact(h f).z
 ·exactλg=>(h g).z
 ·exact(h _).z
section
variable {P:Program}{im:List Nat}{o:Oper}{c:COp}{a:Act}{E:CO}{tp:Nat->Prop}{H:ab}{w:World}{σ:Sg}{S:Nat->Spc}
theorem Wu{A:PT}{f:Nat}{vs:List Value}{ds:List D}{d:Nat}{K:D->ab->Prop}{z:List PanicEntry->Prop}(y:TriZ E.dq z P f A)(h:StW E tp H w)(C:a.defers=E.ds)(F:a.tmps.size=E.N)(I:∀t,R tp (aR E.O tp H w) w (a.tmps.getD t undef) (σ t))
 (p:∀(g:Array Value) (w':World),(dc P f)->(execOp a.eval o).run P w= .ok (.enter f vs.toArray) w) (hlen:vs.length=ds.length)
 (j:∀(k:Nat) (x:Value) (e:D),vs[k]? =some x->ds[k]? =some e->R tp (aR E.O tp H w) w x e) (J:A d ds H K) (q:∀t,o.dst=some t->t<E.N)
 {next:Act->World->Prop} {Q:Exit->Act->World->Prop} (s:∀c w',qcX E z c w'->Q (.panic c) a w') (l:∀r H' x w',K r H'->St E (gx σ o.dst r) H' (a.put o.dst x) w'->next (a.put o.dst x) w'):o.wp P a w next Q:=by
 obtain⟨u,hc⟩:=y E.O tp w vs ds H d K (λb hb=>qFS (h.hO b hb) h.step.size) h.tpg h.sat hlen j J;unfold Oper.wp;rw[p #[] w u];simp only[Oper.upon];refine hc.mono ?_;rintro e w' (⟨x,r,H',L,rfl,hk,h1,h2,h3,h4,h5,h6,M⟩|⟨c,rfl,hz,hs⟩)
 rotate_left
 ·exact s c w' ⟨hz,h.stepTo hs⟩
 have hm:=h.move h4 h1 h2 h3 h5 h6;exact l r H' x w' hk (St.put C F I hm o.dst q M)
def qcN(d:∀t,R tp (aR E.O tp H w) w (a.tmps.getD t undef) (σ t)){args:List Operand}(b:∀x∈args,CG x=true):
 ∀(k:Nat) (x:Value) (e:D),(args.map a.eval)[k]? =some x->(args.map (ev σ))[k]? =some e->R tp (aR E.O tp H w) w x e:=by
 grind [qcz]
theorem Wr{f:Nat}{args:List Operand}(hc:da P im o=some (.call f args)):(∃q:Call,o.op= .call q/\q.callee= .value (.func f)/\q.args.toList=args/\f≠FR)\/ ∃x,o.op= .panic x/\f=FR/\args=[x]/\P.funcs.size<=FR:=by
 have C:=pG hc;unfold da at hc;rw[if_neg (by grind)]at hc;cases d:o.op with
 | call q=>
   simp only[d]at hc;split at hc
   ·rename_i g F;split at hc;grind
    ·rename_i K;cases hb:qeH im o.dst with
     |some r=>rw[hb]at hc;cases hc
     | none=>
       rw[hb]at hc;cases hc<;>grind
   grind;grind;grind;grind
   all_goals
    exfalso
    (repeat' split at hc)<;>first
      |(cases hc;done)
      |grind [qFA]
      |grind [qFA]
      |grind [qFA]
      | (simp only[qFD,qFA]at hc
         obtain⟨n,hn,hc⟩:=hc;cases hc;done)
 | binOp op t x y u=>
   exfalso;simp only[d]at hc;unfold pH at hc
   (repeat' split at hc)<;>first
     |(cases hc;done)
     |(cases p:BY P t<;>simp[p]at hc)
 |alloc el=>simp only[d,qFD,qFA]at hc;obtain⟨z,hz,hc⟩:=hc;cases hc
 |box el x=>simp only[d]at hc;split at hc<;>cases hc
 | build t parts=>
   simp only[d,qFD,qFA]at hc;obtain⟨z,hz,hc⟩:=hc;split at hc
   ·obtain⟨I,j,hc⟩:=qFA.1 hc;split at hc<;>cases hc
   ·simp only[qFA]at hc;obtain⟨sz,hs,I,j,hc⟩:=hc;cases hc
   ·cases hc
 | buildSlice t len parts=>
   simp only[d,qFD]at hc;split at hc
   ·simp only[qFA]at hc;obtain⟨n,hn,z,hz,I,j,hc⟩:=hc
    (repeat' split at hc)<;>cases hc
   ·cases hc
 | load t x=>
   simp only[d,qFD,qFA]at hc;obtain⟨agg,A,sz,hs,hc⟩:=hc;split at hc<;>cases hc
 |store t x y=>simp only[d,qFD,qFA]at hc;obtain⟨z,hz,hc⟩:=hc;cases hc
 |unOp op t x=>cases op<;>simp only[d]at hc<;>cases hc
 | convert s t x=>
   simp only[d]at hc;split at hc
   ·cases hc
   ·cases hc
   ·split at hc<;>cases hc
   ·split at hc<;>cases hc
   ·cases hc
 |range t x=>simp only[d]at hc;split at hc<;>cases hc
 |next x b=>cases b<;>simp only[d]at hc<;>cases hc
 |entry x=>simp only[d]at hc;cases hc
 |makeMap t r=>cases r<;>simp only[d]at hc<;>cases hc
 | insert t m k v=>
   simp only[d]at hc;split at hc
   ·simp only[qFD,qFA]at hc;obtain⟨q,J,hc⟩:=hc;cases hc
   ·cases hc
 | mapUpdate t m k v=>
   simp only[d]at hc;split at hc
   ·simp only[qFD,qFA]at hc;obtain⟨q,J,hc⟩:=hc;cases hc
   ·cases hc
 | lookup t x k b=>
   simp only[d]at hc;split at hc
   ·simp only[qFD,qFA]at hc;obtain⟨q,J,z,hz,agg,A,hc⟩:=hc;split at hc<;>cases hc
   ·cases hc
 |makeFunc fn first caps=>cases fn<;>simp only[d]at hc<;>first|(cases hc;done)|(split at hc<;>cases hc)
 | makeSlice t l k=>
   simp only[d,qFD]at hc;split at hc
   ·simp only[qFA]at hc;obtain⟨n,hn,z,hz,agg,A,hc⟩:=hc;split at hc<;>cases hc
   ·cases hc
 | slice t x lo hi mx=>
   cases mx with
   |some m=>simp[d]at hc
   | none=>
     simp only[d,qFD]at hc;split at hc
     ·simp only[qFA]at hc;obtain⟨n,hn,hc⟩:=hc;cases hc
     ·cases hc
     ·cases hc
 | fieldAddr t x f=>
   simp only[d,qFD]at hc;split at hc
   ·simp only[qFA]at hc;obtain⟨fd,L,sz,hs,hc⟩:=hc;split at hc<;>cases hc
   ·cases hc
 | field t x f=>
   simp only[d,qFD]at hc;split at hc
   ·simp only[qFA]at hc;obtain⟨fd,L,agg,A,sz,hs,hc⟩:=hc;split at hc<;>cases hc
   ·cases hc
 | indexAddr t x i=>
   simp only[d,qFD]at hc;split at hc
   ·simp only[qFA]at hc;obtain⟨n,hn,hc⟩:=hc;cases hc
   ·split at hc
    ·simp only[qFA]at hc;obtain⟨sz,hs,hc⟩:=hc;split at hc<;>cases hc
    ·simp only[qFA]at hc;obtain⟨sz,hs,hc⟩:=hc;cases hc
   ·cases hc
 |index t x i=>simp only[d]at hc;split at hc<;>cases hc
 | makeInterface t x=>
   simp only[d]at hc;split at hc
   ·split at hc<;>cases hc
   ·cases hc
 | panic x=>
   simp only[d]at hc;split at hc
   ·rename_i h;cases hc;simp only[qFJ,decide_eq_true_eq]at h;exact .inr ⟨x,rfl,rfl,rfl,h.2⟩
   ·cases hc
 | _=>simp[d]at hc
theorem RX{f:Operand}{args:List Operand}(hc:da P im o=some (.callv f args)):∃q:Call,o.op= .call q/\q.callee= .value f/\q.args.toList=args:=by
 have A:=pG hc;unfold da at hc;rw[if_neg (by grind)]at hc;cases d:o.op with
 | call q=>
   simp only[d]at hc;split at hc
   ·split at hc;grind
    ·cases hb:qeH im o.dst<;>rw[hb]at hc<;>cases hc
   grind;grind;grind;grind
   all_goals
    exfalso
    (repeat' split at hc)<;>first
      |(cases hc;done)
      |grind [qFA]
      |grind [qFA]
      |grind [qFA]
      | (simp only[qFD,qFA]at hc
         obtain⟨n,hn,hc⟩:=hc;cases hc;done)
 | binOp op t x y u=>
   exfalso;simp only[d]at hc;unfold pH at hc
   (repeat' split at hc)<;>first
     |(cases hc;done)
     |(cases j:BY P t<;>simp[j]at hc)
 |alloc el=>simp only[d,qFD,qFA]at hc;obtain⟨z,hz,hc⟩:=hc;cases hc
 |box el x=>simp only[d]at hc;split at hc<;>cases hc
 | build t parts=>
   simp only[d,qFD,qFA]at hc;obtain⟨z,hz,hc⟩:=hc;split at hc
   ·obtain⟨C,h,hc⟩:=qFA.1 hc;split at hc<;>cases hc
   ·simp only[qFA]at hc;obtain⟨sz,hs,C,h,hc⟩:=hc;cases hc
   ·cases hc
 | buildSlice t len parts=>
   simp only[d,qFD]at hc;split at hc
   ·simp only[qFA]at hc;obtain⟨n,hn,z,hz,C,h,hc⟩:=hc
    (repeat' split at hc)<;>cases hc
   ·cases hc
 | load t x=>
   simp only[d,qFD,qFA]at hc;obtain⟨agg,p,sz,hs,hc⟩:=hc;split at hc<;>cases hc
 |store t x y=>simp only[d,qFD,qFA]at hc;obtain⟨z,hz,hc⟩:=hc;cases hc
 |unOp op t x=>cases op<;>simp only[d]at hc<;>cases hc
 | convert s t x=>
   simp only[d]at hc;split at hc
   ·cases hc
   ·cases hc
   ·split at hc<;>cases hc
   ·split at hc<;>cases hc
   ·cases hc
 |range t x=>simp only[d]at hc;split at hc<;>cases hc
 |next x b=>cases b<;>simp only[d]at hc<;>cases hc
 |entry x=>simp only[d]at hc;cases hc
 |makeMap t r=>cases r<;>simp only[d]at hc<;>cases hc
 | insert t m k v=>
   simp only[d]at hc;split at hc
   ·simp only[qFD,qFA]at hc;obtain⟨q,F,hc⟩:=hc;cases hc
   ·cases hc
 | mapUpdate t m k v=>
   simp only[d]at hc;split at hc
   ·simp only[qFD,qFA]at hc;obtain⟨q,F,hc⟩:=hc;cases hc
   ·cases hc
 | lookup t x k b=>
   simp only[d]at hc;split at hc
   ·simp only[qFD,qFA]at hc;obtain⟨q,F,z,hz,agg,p,hc⟩:=hc;split at hc<;>cases hc
   ·cases hc
 |makeFunc fn first caps=>cases fn<;>simp only[d]at hc<;>first|(cases hc;done)|(split at hc<;>cases hc)
 | makeSlice t l k=>
   simp only[d,qFD]at hc;split at hc
   ·simp only[qFA]at hc;obtain⟨n,hn,z,hz,agg,p,hc⟩:=hc;split at hc<;>cases hc
   ·cases hc
 | slice t x lo hi mx=>
   cases mx with
   |some m=>simp[d]at hc
   | none=>
     simp only[d,qFD]at hc;split at hc
     ·simp only[qFA]at hc;obtain⟨n,hn,hc⟩:=hc;cases hc
     ·cases hc
     ·cases hc
 | fieldAddr t x f=>
   simp only[d,qFD]at hc;split at hc
   ·simp only[qFA]at hc;obtain⟨fd,I,sz,hs,hc⟩:=hc;split at hc<;>cases hc
   ·cases hc
 | field t x f=>
   simp only[d,qFD]at hc;split at hc
   ·simp only[qFA]at hc;obtain⟨fd,I,agg,p,sz,hs,hc⟩:=hc;split at hc<;>cases hc
   ·cases hc
 | indexAddr t x i=>
   simp only[d,qFD]at hc;split at hc
   ·simp only[qFA]at hc;obtain⟨n,hn,hc⟩:=hc;cases hc
   ·split at hc
    ·simp only[qFA]at hc;obtain⟨sz,hs,hc⟩:=hc;split at hc<;>cases hc
    ·simp only[qFA]at hc;obtain⟨sz,hs,hc⟩:=hc;cases hc
   ·cases hc
 |index t x i=>simp only[d]at hc;split at hc<;>cases hc
 | makeInterface t x=>
   simp only[d]at hc;split at hc
   ·split at hc<;>cases hc
   ·cases hc
 |panic x=>simp only[d]at hc;split at hc<;>cases hc
 | _=>simp[d]at hc
theorem RY{r f:Nat}{args:List Operand}(hc:da P im o=some (.callb r f args)):∃q:Call,o.op= .call q/\q.callee= .value (.func f)/\q.args.toList=args:=by
 have A:=pG hc;unfold da at hc;rw[if_neg (by grind)]at hc;cases d:o.op with
 | call q=>
   simp only[d]at hc;split at hc
   ·rename_i g C;split at hc;grind
    ·cases hb:qeH im o.dst with
     |none=>rw[hb]at hc;cases hc
     | some r'=>
       rw[hb]at hc;cases hc<;>grind
   grind;grind;grind;grind
   all_goals
    exfalso
    (repeat' split at hc)<;>first
      |(cases hc;done)
      |grind [qFA]
      | (simp only[qFD,qFA]at hc
         obtain⟨n,hn,z,hz,hc⟩:=hc;split at hc<;>cases hc;done)
      | (simp only[qFD,qFA]at hc
         obtain⟨n,hn,hc⟩:=hc;split at hc<;>cases hc;done)
      | (simp only[qFD,qFA]at hc
         obtain⟨n,hn,hc⟩:=hc;cases hc;done)
 | binOp op t x y u=>
   exfalso;simp only[d]at hc;unfold pH at hc
   (repeat' split at hc)<;>first
     |(cases hc;done)
     |(cases j:BY P t<;>simp[j]at hc)
 |alloc el=>simp only[d,qFD,qFA]at hc;obtain⟨z,hz,hc⟩:=hc;cases hc
 |box el x=>simp only[d]at hc;split at hc<;>cases hc
 | build t parts=>
   simp only[d,qFD,qFA]at hc;obtain⟨z,hz,hc⟩:=hc;split at hc
   ·obtain⟨F,h,hc⟩:=qFA.1 hc;split at hc<;>cases hc
   ·simp only[qFA]at hc;obtain⟨sz,hs,F,h,hc⟩:=hc;cases hc
   ·cases hc
 | buildSlice t len parts=>
   simp only[d,qFD]at hc;split at hc
   ·simp only[qFA]at hc;obtain⟨n,hn,z,hz,F,h,hc⟩:=hc
    (repeat' split at hc)<;>cases hc
   ·cases hc
 | load t x=>
   simp only[d,qFD,qFA]at hc;obtain⟨agg,p,sz,hs,hc⟩:=hc;split at hc<;>cases hc
 |store t x y=>simp only[d,qFD,qFA]at hc;obtain⟨z,hz,hc⟩:=hc;cases hc
 |unOp op t x=>cases op<;>simp only[d]at hc<;>cases hc
 | convert s t x=>
   simp only[d]at hc;split at hc
   ·cases hc
   ·cases hc
   ·split at hc<;>cases hc
   ·split at hc<;>cases hc
   ·cases hc
 |range t x=>simp only[d]at hc;split at hc<;>cases hc
 |next x b=>cases b<;>simp only[d]at hc<;>cases hc
 |entry x=>simp only[d]at hc;cases hc
 |makeMap t r=>cases r<;>simp only[d]at hc<;>cases hc
 | insert t m k v=>
   simp only[d]at hc;split at hc
   ·simp only[qFD,qFA]at hc;obtain⟨q,I,hc⟩:=hc;cases hc
   ·cases hc
 | mapUpdate t m k v=>
   simp only[d]at hc;split at hc
   ·simp only[qFD,qFA]at hc;obtain⟨q,I,hc⟩:=hc;cases hc
   ·cases hc
 | lookup t x k b=>
   simp only[d]at hc;split at hc
   ·simp only[qFD,qFA]at hc;obtain⟨q,I,z,hz,agg,p,hc⟩:=hc;split at hc<;>cases hc
   ·cases hc
 |makeFunc fn first caps=>cases fn<;>simp only[d]at hc<;>first|(cases hc;done)|(split at hc<;>cases hc)
 | makeSlice t l k=>
   simp only[d,qFD]at hc;split at hc
   ·simp only[qFA]at hc;obtain⟨n,hn,z,hz,agg,p,hc⟩:=hc;split at hc<;>cases hc
   ·cases hc
 | slice t x lo hi mx=>
   cases mx with
   |some m=>simp[d]at hc
   | none=>
     simp only[d,qFD]at hc;split at hc
     ·simp only[qFA]at hc;obtain⟨n,hn,hc⟩:=hc;cases hc
     ·cases hc
     ·cases hc
 | fieldAddr t x f=>
   simp only[d,qFD]at hc;split at hc
   ·simp only[qFA]at hc;obtain⟨fd,J,sz,hs,hc⟩:=hc;split at hc<;>cases hc
   ·cases hc
 | field t x f=>
   simp only[d,qFD]at hc;split at hc
   ·simp only[qFA]at hc;obtain⟨fd,J,agg,p,sz,hs,hc⟩:=hc;split at hc<;>cases hc
   ·cases hc
 | indexAddr t x i=>
   simp only[d,qFD]at hc;split at hc
   ·simp only[qFA]at hc;obtain⟨n,hn,hc⟩:=hc;cases hc
   ·split at hc
    ·simp only[qFA]at hc;obtain⟨sz,hs,hc⟩:=hc;split at hc<;>cases hc
    ·simp only[qFA]at hc;obtain⟨sz,hs,hc⟩:=hc;cases hc
   ·cases hc
 |index t x i=>simp only[d]at hc;split at hc<;>cases hc
 | makeInterface t x=>
   simp only[d]at hc;split at hc
   ·split at hc<;>cases hc
   ·cases hc
 |panic x=>simp only[d]at hc;split at hc<;>cases hc
 | _=>simp[d]at hc
theorem Ly{K:D->ab->Prop}{z:List PanicEntry->Prop}(M:CallOk E.dq P z S c)(hc:da P im o=some c)(l:StW E tp H w)(hd:a.defers=E.ds)(hN:a.tmps.size=E.N)(I:∀t,R tp (aR E.O tp H w) w (a.tmps.getD t undef) (σ t))
 (u:∀t,o.dst=some t->t<E.N) (J:aA S c o.dst σ H K)
 {next:Act->World->Prop} {Q:Exit->Act->World->Prop} (y:∀c w',qcX E z c w'->Q (.panic c) a w') (j:∀r H' x w',K r H'->St E (gx σ o.dst r) H' (a.put o.dst x) w'->next (a.put o.dst x) w'):o.wp P a w next Q:=by
 by_cases W:c.isCall=true
 ·have p:=pG hc;cases c<;>simp[COp.isCall]at W
  ·rename_i f args;rcases Wr hc with⟨q,A,s,C,hne⟩|⟨x,A,hf,ha,hsz⟩
   rotate_left
   ·subst ha;subst hf;have hxo:CG x=true:=qFI.1 p x (by grind [Op.operands]);have hxR:=qcz I x hxo;simp only[CallOk,if_true]at M;have hz:=M hsz E.O tp w (a.eval x) (ev σ x) H (o.dst.getD 0) K (λb hb=>qFS (l.hO b hb) l.step.size) l.tpg l.sat hxR J;obtain⟨⟨t,v,hv1⟩,hz⟩:=hz;unfold Oper.wp;have:(execOp a.eval o).run P w= .halt (.panic (a.eval x)) w:=by
     simp_all [execOp,Instr.panic]
    rw[this];exact y _ _ ⟨hz,l.stepTo (.refl _ _ _)⟩
   simp only[CallOk,if_neg hne]at M;have L:∀x∈args,CG x=true:=λx hx=>qFI.1 p x (by
    grind [Op.operands,Call.operands])
   simp only[aA]at J;refine Wu (vs:=args.map a.eval) (ds:=args.map (ev σ)) M l hd hN I (λ_ _ F=>?_) (by simp) (qcN I L) J u y j;have he:q.args.map a.eval=(args.map a.eval).toArray:=by grind
   simp[execOp,A,resolve,s,Act.eval,Deferred.ofValue,invoke,he,F _ w]
  ·rename_i f args;obtain⟨q,A,s,C⟩:=RX hc;have L:∀x∈args,CG x=true:=λx hx=>qFI.1 p x (by
    grind [Op.operands,Call.operands])
   have hfo:CG f=true:=qFI.1 p f (by
    grind [Op.operands,Call.operands])
   have Y:=qcz I f hfo;simp only[aA]at J;split at J
   ·rename_i g caps e1;rw[e1]at Y;generalize hq:a.eval f=fv at Y;cases Y with
    | clo _ xs _ hl h=>
      refine Wu (vs:=args.map a.eval++xs) (ds:=args.map (ev σ) ++caps) (M g) l hd hN I (λ_ _ F=>?_) (by grind) ?_ J u y j
      ·have he:q.args.map a.eval=(args.map a.eval).toArray:=by grind
       simp[execOp,A,resolve,s,hq,Deferred.ofValue,invoke,he,F _ w]
      ·intro k x e h1 h2;by_cases hk:k<args.length;grind [qGc,qcN];grind
   grind
  ·rename_i r f args;obtain⟨q,A,s,C⟩:=RY hc;have L:∀x∈args,CG x=true:=λx hx=>qFI.1 p x (by
    grind [Op.operands,Call.operands])
   simp only[aA]at J;have M:TriZ E.dq z P f (S f).pt:=M;refine Wu (vs:=args.map a.eval) (ds:=args.map (ev σ)) M l hd hN I (λ_ _ F=>?_) (by simp) (qcN I L) J u y j;have he:q.args.map a.eval=(args.map a.eval).toArray:=by grind
   simp[execOp,A,resolve,s,Act.eval,Deferred.ofValue,invoke,he,F _ w]
 ·have hnc:c.isCall=false:=by grind
  have hv':bK c o.dst σ H K:=by
   cases c<;>first|exact J|grind [COp.isCall]
  obtain⟨nx,x,d,H',w',Z,hnx,hm,hR,hk⟩:=qjf hc hnc l I hv';have U:=St.put hd hN I hm o.dst u hR;unfold Oper.wp;rw[Z];rcases hnx with rfl|⟨rfl,rfl⟩
  ·exact j d H' x w' hk U
  ·exact j d H' Go.undef w' hk U
end
end Go.Gv
