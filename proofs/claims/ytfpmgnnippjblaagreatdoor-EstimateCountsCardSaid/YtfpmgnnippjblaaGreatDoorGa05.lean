/- S8 -/
import Derived.ChangeKeysEq
import Derived.Maps.RangeRun
import Derived.MapKept
import Derived.Test.YtfpmgnnippjblaaGreatDoorGa04
set_option linter.all false
namespace Go.Gv
def qsr(w:World):KK->Value->Prop
 | .int k,x=>∃n,x= .int k n
 | .str,x=>∃s,x= .string s
 | .bool,x=>∃b,x= .bool b
 | .ptr,x=>x= .pointer none\/ ∃b off,x= .pointer (some ⟨b,off,none⟩)/\PlainB w b
def KVl(w:World):List KK->List Value->Prop
 | [], []=>True
 |k::ks,x::xs=>qsr w k x/\KVl w ks xs
 | _,_=>False
def KP(ka:Bool)(xs:List Value):Value:=if ka then .agg xs.toArray else xs.headD undef
theorem KVl.length{w:World} :∀{ks:List KK} {xs:List Value},KVl w ks xs->xs.length=ks.length
 | [], [],_=>rfl
 | _::ks,_::xs,h=>by simp[KVl.length h.2]
 | [],_::_,h=>h.elim
 | _::_, [],h=>h.elim
def KVl.split{w:World} :∀{d a:List KK} {xs:List Value},KVl w (d++a) xs->∃b c,xs=b++c/\KVl w d b/\KVl w a c
 | [],a,xs,h=>⟨[],xs,rfl,trivial,h⟩
 | k::d,a,x::xs,h=>by
   obtain⟨b,c,rfl,h1,h2⟩:=KVl.split h.2;exact⟨x::b,c,rfl,⟨h.1,h1⟩,h2⟩
 | _::_,_, [],h=>h.elim
section
variable {P:Program}{w:World}
def PL{t:TypeId}{n:Nat}(h:cj P t=some n):∃i,P.info? t=some i/\P.cellsOf t=n:=by
 unfold cj at h;cases a:P.info? t with
 |none=>grind
 | some i=>
   rw[a]at h;simp at h;exact⟨i,rfl,by grind [Program.cellsOf]⟩
def xy{n:Nat}{t:TypeId}{ks:List KK}(h:KR P n t=some ks):∃ka,gj P t=some ka/\(ka=false->∃k,ks=[k]):=by
 cases n with
 |zero=>cases h
 | succ n=>
   unfold KR at h;unfold gj;split at h
   ·rename_i k a;rw[a];grind
   ·rename_i a;rw[a];grind
   ·rename_i a;rw[a];grind
   ·rename_i e a;rw[a];grind
   simp_all;simp_all;grind
theorem sX{e:TypeId}{ka:Bool}(a:gj P e=some ka){pre mid post:List Value}(hs:cj P e=some mid.length)(h1:ka=false->mid.length=1):
 (part e (pre++ (mid++post)).toArray pre.length).run P w= .ok (KP ka mid) w:=by
 cases ka with
 | true=>
   simp_all [part,KP,sY,aQ]
 | false=>
   obtain⟨x,rfl⟩:=qCk.1 (h1 rfl);have b:(pre++ ([x] ++post))[pre.length]? =some x:=by simp
   rw[Ml a b];rfl
theorem R2{b c o p:Nat}(h1:PlainB w b)(h2:PlainB w c):(sameAddr ⟨b,o,none⟩ ⟨c,p,none⟩).run P w= .ok ((⟨b,o,none⟩:Addr)==⟨c,p,none⟩) w:=by
 obtain⟨xs,el,h1⟩:=h1;obtain⟨l,j,h2⟩:=h2;have fr:∀(b o:Nat) (xs:Array Value) (el:Nat),w.heap[b]? =some (.cells xs el (0,0))->w.frozen? ⟨b,o,none⟩=false:=λb o xs el h=>by
  simp[World.frozen?,h]
 have d:∀(b:Nat) (xs:Array Value) (el:Nat),w.heap[b]? =some (.cells xs el (0,0))->w.shape? b=some (el,xs.size):=λb xs el h=>by
  simp[World.shape?,h]
 by_cases k:b=c;simp_all [sameAddr]
 ·have a:((⟨b,o,none⟩:Addr)==⟨c,p,none⟩)=false:=by
   simp
  rw[a];have hb:(b==c)=false:=by grind
  simp[sameAddr,hb,frozen,shape,Sem.run,fr _ _ _ _ h1,fr _ _ _ _ h2,noView,viewAt,d _ _ _ h1,d _ _ _ h2,mayBeOne,stringish]
def qow(P:Program)(w:World)(dd:Nat)(e:TypeId)(ka:Bool)(ks:List KK):Prop:=
 ∀xs a,KVl w ks xs->KVl w ks a->∃r:Bool,(Op.equalIn dd e (KP ka xs) (KP ka a)).run P w= .ok r w/\(r=true↔xs=a)
theorem QE{dd:Nat}{kf:TypeId->Option (List KK)}(hk:∀t ks,kf t=some ks->∃ka,gj P t=some ka/\(ka=false->ks.length=1)/\qow P w dd t ka ks):
 ∀ (fs:List Field) (off:Nat) (ks:List KK),Ch P kf fs off=some ks->∀pre xs a p:List Value,pre.length=off->a.length=off->KVl w ks xs->KVl w ks p->
  ∃r:Bool,(Op.eqFields dd (pre++xs).toArray (a++p).toArray fs).run P w= .ok r w/\(r=true↔xs=p)
 | [],off,ks,h,pre,xs,a,p,_,_,x,y=>by
   cases h;have h1:=qBY.1 x.length;have h2:=qBY.1 y.length;simp_all [Op.eqFields]
 | f::fs,off,ks,h,pre,xs,a,p,hp,J,x,y=>by
   unfold Ch at h;simp only[qBd,qBb]at h;obtain⟨K,A,h⟩:=h;split at h
   ·rename_i b;simp only[qBb,qBq,qBh,decide_eq_true_eq]at h b;obtain⟨l,hl,rfl⟩:=h;obtain⟨⟨I,hn⟩,L⟩:=b;obtain⟨j,s,rfl,c,C⟩:=x.split;obtain⟨k,u,rfl,d,E⟩:=y.split;obtain⟨ka,U,h1,F⟩:=hk _ _ A;have M:(part f.type (pre++ (j++s)).toArray f.offset).run P w= .ok (KP ka j) w:=by
     grind [sX,c.length]
    have N:(part f.type (a++ (k++u)).toArray f.offset).run P w= .ok (KP ka k) w:=by
     grind [sX,d.length]
    obtain⟨r,O,W⟩:=F j k c d;obtain⟨r',Q,S⟩:=QE hk fs (off+K.length) l hl (pre++j) s (a++k) u (by grind [c.length]) (by grind [d.length]) C E;rw[qB7,qB7]at Q;have q:j++s=k++u↔j=k/\s=u:=⟨λh=>List.append_inj h (by rw[c.length,d.length]),λ⟨h1,h2⟩=>by grind⟩
    simp only[Op.eqFields,hn,ne_eq,not_false_eq_true,if_true,qBy,M,N,O,qBp,q];cases r;simp_all;grind
   grind
theorem Xi{dd:Nat}{e:TypeId}{ka:Bool}{ks:List KK}(C:gj P e=some ka)(hs:cj P e=some ks.length)(h1:ka=false->ks.length=1)(k:qow P w dd e ka ks):
 ∀ (m s:Nat) (pre xs a l:List Value),pre.length=s*ks.length->a.length=s*ks.length->KVl w (List.replicate m ks).flatten xs->KVl w (List.replicate m ks).flatten l->
  ∃r:Bool,(Op.eqItems dd e ks.length (pre++xs).toArray (a++l).toArray (List.range' s m)).run P w= .ok r w/\(r=true↔xs=l)
 | 0,s,pre,xs,a,l,_,_,q,t=>by
   have h1:=qBY.1 (KVl.length (ks:=[]) (by simpa using q));have h2:=qBY.1 (KVl.length (ks:=[]) (by simpa using t));simp_all [Op.eqItems]
 | m+1,s,pre,xs,a,l,hp,E,q,t=>by
   rw[qDh,qDp]at q t;obtain⟨d,u,rfl,b,y⟩:=q.split;obtain⟨j,x,rfl,c,A⟩:=t.split;have F:(part e (pre++ (d++u)).toArray (s*ks.length)).run P w= .ok (KP ka d) w:=by
    grind [sX,b.length]
   have I:(part e (a++ (j++x)).toArray (s*ks.length)).run P w= .ok (KP ka j) w:=by
    grind [sX,c.length]
   obtain⟨r,J,M⟩:=k d j b c;obtain⟨r',K,L⟩:=Xi C hs h1 k m (s+1) (pre++d) u (a++j) x (by grind [b.length]) (by grind [c.length]) y A;rw[qB7,qB7]at K;have p:d++u=j++x↔d=j/\u=x:=⟨λh=>List.append_inj h (by rw[b.length,c.length]),λ⟨h1,h2⟩=>by grind⟩
   rw[qCZ];simp only[Op.eqItems,qBy,F,I,J,qBp,p];cases r;simp_all;grind
def Li{ka:Bool}{ks:List KK}(h:ka=false->∃k,ks=[k]):ka=false->ks.length=1:=λe=>by
 grind
theorem KVl.one{k:KK}{xs:List Value}(h:KVl w [k] xs):∃x,xs=[x]/\qsr w k x:=by
 match xs,h with
 | [x],h=>exact⟨x,rfl,h.1⟩
 | _::_::_,h=>exact h.2.elim
theorem qxR:∀(n:Nat) (t:TypeId) (ks:List KK) (ka:Bool),KR P n t=some ks->gj P t=some ka->∀d,qow P w (d+n) t ka ks
 | 0,t,ks,ka,h,_,_=>by cases h
 | n+1,t,ks,ka,h,j,d=>by
   intro xs L A C;have Q:d+ (n+1)=(d+n) +1:=rfl;rw[Q];unfold KR at h;unfold gj at j;split at h
   ·rename_i k a;rw[a]at j;cases h;cases j;obtain⟨x,rfl,m,rfl⟩:=A.one;obtain⟨y,rfl,q,rfl⟩:=C.one;exact⟨m==q,run_equalIn_int w _ t _ _ _ _ a,by simp⟩
   ·rename_i a;rw[a]at j;cases h;cases j;obtain⟨x,rfl,m,rfl⟩:=A.one;obtain⟨y,rfl,q,rfl⟩:=C.one;exact⟨m.toList==q.toList,run_equalIn_string w _ t _ _ a,by simp[qCK,qDq]⟩
   ·rename_i a;rw[a]at j;cases h;cases j;obtain⟨x,rfl,m,rfl⟩:=A.one;obtain⟨y,rfl,q,rfl⟩:=C.one;exact⟨m==q,run_equalIn_bool w _ t _ _ a,by simp⟩
   ·rename_i e a;rw[a]at j;split at h
    ·rename_i m hm;cases h;cases j;obtain⟨x,rfl,A⟩:=A.one;obtain⟨y,rfl,C⟩:=C.one;simp only[KP,qB1,if_false,List.headD_cons];rcases A with rfl|⟨b,o,rfl,hb⟩ <;>rcases C with rfl|⟨c,p,rfl,hc⟩
     ·exact⟨true,by simp[Op.equalIn,run_underlying a],by simp⟩
     ·exact⟨false,by simp[Op.equalIn,run_underlying a],by simp⟩
     ·exact⟨false,by simp[Op.equalIn,run_underlying a],by simp⟩
     ·refine⟨(⟨b,o,none⟩:Addr)==⟨c,p,none⟩,?_,by simp⟩;simp only[Op.equalIn,qBy,run_underlying a,qBp,aQ hm,ne_eq,Nat.add_eq_zero_iff,Nat.succ_ne_zero,and_false,not_false_eq_true,if_true];grind [R2]
    grind
   ·rename_i fs a;rw[a]at j;split at h;grind
    ·rename_i S;cases j;have M:P.fieldsOf t=fs:=by grind [Program.fieldsOf]
     have l:=run_equalIn_struct (P:=P) w (d+n) t xs.toArray L.toArray (by grind) (by grind);rw[M]at l;obtain⟨r,U,F⟩:=QE (P:=P) (w:=w) (dd:=d+n) (kf:=KR P n) (λt' N I=>by
      obtain⟨u,s,E⟩:=xy I;exact⟨u,s,Li E,qxR n t' N u I s d⟩) fs.toList 0 ks h [] xs [] L rfl rfl A C
     simp_all [KP]
   ·rename_i len e a;rw[a]at j;cases j;simp only[qBd,qBb]at h;obtain⟨W,J,h⟩:=h;split at h
    ·rename_i K;cases h;obtain⟨i,hi,O⟩:=PL K;obtain⟨u,s,E⟩:=xy J;have l:=run_equalIn_array (P:=P) w (d+n) xs.toArray L.toArray a hi;rw[O,qC2]at l;obtain⟨r,U,F⟩:=Xi s K (Li E) (qxR n e W u J s d) len 0 [] xs [] L (by simp) (by simp) A C;simp_all [KP]
    grind
   grind
def qA9(P:Program)(w:World)(a:Bool)(dd:Nat)(e:TypeId)(ka:Bool)(ks:List KK):Prop:=∀xs,KVl w ks xs->(Instr.checkKey a dd e (KP ka xs)).run P w= .ok () w
theorem qrT(em:Bool):∀(n:Nat) (t:TypeId) (ks:List KK) (ka:Bool),KR P n t=some ks->gj P t=some ka->∀d,qA9 P w em (d+n) t ka ks
 | 0,t,ks,ka,h,_,_=>by cases h
 | n+1,t,ks,ka,h,ha,d=>by
   intro xs hx;have hd:d+ (n+1)=(d+n) +1:=rfl;rw[hd,Instr.checkKey];unfold KR at h;unfold gj at ha;split at h
   ·rename_i k hu;rw[hu]at ha;cases h;simp_all [run_underlying]
   ·rename_i hu;rw[hu]at ha;cases h;simp_all [run_underlying]
   ·rename_i hu;rw[hu]at ha;cases h;simp_all [run_underlying]
   ·rename_i e hu;rw[hu]at ha;split at h
    ·cases h;cases ha;obtain⟨x,rfl,hx⟩:=hx.one;rcases hx with rfl|⟨b,o,rfl,hb⟩ <;>simp[KP,run_underlying hu]
    ·cases h
   ·rename_i fs hu;rw[hu]at ha;split at h
    ·cases h
    ·cases ha;simp only[KP,if_true,qBy,run_underlying hu,qBp];rw[<-Array.forIn_toList];have key:∀(l:List Field) (off:Nat) (ks:List KK),Ch P (KR P n) l off=some ks->∀pre xs:List Value,pre.length=off->KVl w ks xs->
      (forIn l PUnit.unit fun f r => (do if f.name ≠ "_" then (do Instr.checkKey em (d + n) f.type (← part f.type (pre ++ xs).toArray f.offset); pure (ForInStep.yield PUnit.unit)) else pure (ForInStep.yield PUnit.unit) : Sem (ForInStep PUnit))).run P w = .ok PUnit.unit w := by
      intro l
      induction l with
      |nil=>intro off ks _ pre xs _ _;simp
      | cons f l ih=>
        intro off ks h pre xs hp hx;unfold Ch at h;simp only[qBd,qBb]at h;obtain⟨k1,hk1,h⟩:=h;split at h
        ·rename_i hcond;simp only[qBb,qBq,qBh,decide_eq_true_eq]at h hcond;obtain⟨l',hl,rfl⟩:=h;obtain⟨⟨hoff,hn⟩,hsz⟩:=hcond;obtain⟨x1,x2,rfl,hx1,hx2⟩:=hx.split;obtain⟨ka',ha',h1'⟩:=xy hk1;have p1:(part f.type (pre++ (x1++x2)).toArray f.offset).run P w= .ok (KP ka' x1) w:=by
          rw[hoff,<-hp];exact sX ha' (by rw[hx1.length];exact hsz) (λe=>by rw[hx1.length];exact Li h1' e)
         have p2:=qrT em n f.type k1 ka' hk1 ha' d x1 hx1;have p3:=ih (off+k1.length) l' hl (pre++x1) x2 (by simp[hp,hx1.length]) hx2;rw[qB7]at p3;simp only[List.forIn_cons,qBy,hn,ne_eq,not_false_eq_true,if_true,qBp,p1,p2,qBG];exact p3
        ·cases h
     have k0:=key fs.toList 0 ks h [] xs rfl hx;rw[qCa]at k0;rw[k0];rfl
   ·rename_i len e hu;rw[hu]at ha;cases ha;simp only[qBd,qBb]at h;obtain⟨k1,hk1,h⟩:=h;split at h
    ·rename_i hsz;cases h;obtain⟨i,hi,hco⟩:=PL hsz;obtain⟨ka',ha',h1'⟩:=xy hk1;simp only[KP,if_true,qBy,run_underlying hu,qBp];simp only[Std.Legacy.Range.forIn_eq_forIn_range',Std.Legacy.Range.size,Nat.sub_zero,Nat.add_one_sub_one,Nat.div_one];have key:∀(m s:Nat) (pre xs:List Value),pre.length=s*k1.length->KVl w (List.replicate m k1).flatten xs->
      (forIn (List.range' s m) PUnit.unit λi r=>(do Instr.checkKey em (d+n) e (<-part e (pre++xs).toArray (i* (<-sizeOf e)));pure (ForInStep.yield PUnit.unit):Sem (ForInStep PUnit))).run P w= .ok PUnit.unit w:=by
      intro m
      induction m with
      |zero=>intro s pre xs _ _;simp
      | succ m ih=>
        intro s pre xs hp hx;rw[qDh,qDp]at hx;obtain⟨x1,x2,rfl,hx1,hx2⟩:=hx.split;have p1:(part e (pre++ (x1++x2)).toArray (s*k1.length)).run P w= .ok (KP ka' x1) w:=by
         rw[<-hp];exact sX ha' (by rw[hx1.length];exact hsz) (λe=>by rw[hx1.length];exact Li h1' e)
        have p2:=qrT em n e k1 ka' hk1 ha' d x1 hx1;have p3:=ih (s+1) (pre++x1) x2 (by simp[hp,hx1.length,qCm]) hx2;rw[qB7]at p3;rw[qCZ];simp only[List.forIn_cons,qBy,aQ hsz,qBp,p1,p2,qBG];exact p3
     have k0:=key len 0 [] xs (by simp) hx;rw[qCa]at k0;rw[k0];rfl
    ·cases h
   grind
end
open Go.ChangeMaps (setBlock)
section
variable {P:Program}{w:World}
def qjP{ka:Bool}{ks:List KK}{xs a:List Value}(h1:ka=false->ks.length=1)(b:KVl w ks xs)(c:KVl w ks a)(h:KP ka xs=KP ka a):xs=a:=by
 cases ka with
 |true=>grind [KP]
 | false=>
   obtain⟨k,rfl⟩:=qCk.1 (h1 rfl);grind [b.one,c.one,KP]
theorem qhJ(a b:ByteArray):(a==b)=true↔a=b:=by
 simp[beq_toListBytes,qCK,qDq]
theorem JB{d:TypeDesc}{x y:Value}{b:Bool}(h:Instr.sameNow d x y=some b):b=true↔x=y:=by
 unfold Instr.sameNow at h;grind [qhJ]
theorem Nj{d:TypeDesc}{x:Value} :∀(es:List MapEntry) (i:Nat) (r:Option (Nat×Value)),Instr.findNow d x es i=some r->
 (r=none/\∀e∈es,e.key≠x)\/ ∃j e,r=some (i+j,e.val)/\es[j]? =some e/\e.key=x
 | [],i,r,h=>by
   cases h<;>grind
 | e::es,i,r,h=>by
   unfold Instr.findNow at h;split at h
   ·rename_i hs;cases h;exact .inr ⟨0,e,by simp,rfl,((JB hs).1 rfl).symm⟩
   ·rename_i hs;have a:e.key≠x:=λc=>by grind [JB]
    rcases Nj es (i+1) r h with⟨h1,h2⟩|⟨j,b,h1,h2,h3⟩
    grind
    ·exact .inr ⟨j+1,b,by grind,by grind,h3⟩
   grind
structure KeyT (P:Program) (t:TypeId) (ka:Bool) (ks:List KK):Prop where
 c:KR P 50 t=some ks
 a:gj P t=some ka
def Ca{t:TypeId}{ka:Bool}{ks:List KK}(h:qgh P t=some (ka,ks)):KeyT P t ka ks:=by
 grind [KeyT,qgh,Option.bind_eq_some_iff]
theorem KeyT.one{t:TypeId}{ka:Bool}{ks:List KK}(h:KeyT P t ka ks):ka=false->ks.length=1:=by
 obtain⟨b,h1,h2⟩:=xy h.c;have:=h.a.symm.trans h1;grind
def Ud(w:World)(ka:Bool)(ks:List KK)(x:Value):Prop:=∃xs,x=KP ka xs/\KVl w ks xs
theorem Nk{t:TypeId}{ka:Bool}{ks:List KK}(l:KeyT P t ka ks){x:Value}(q:Ud w ka ks x):∀(es:List MapEntry) (i:Nat),(∀e∈es,Ud w ka ks e.key)->
 ∃r,(Instr.findAsking t x es i).run P w= .ok r w/\((r=none/\∀e∈es,e.key≠x)\/ ∃j e,r=some (i+j,e.val)/\es[j]? =some e/\e.key=x)
 | [],i,_=>⟨none,by rfl, .inl ⟨rfl,λe he=>by grind⟩⟩
 | e::es,i,b=>by
   obtain⟨xs,rfl,d⟩:=id q;obtain⟨s,u,h⟩:=b e (by simp);obtain⟨r,y,k⟩:=qxR (P:=P) (w:=w) 50 t ks ka l.c l.a 9950 xs s d h;have p:(Op.equal t (KP ka xs) e.key).run P w= .ok r w:=by rw[u];exact y
   cases r with
   | true=>
     exact⟨some (i,e.val),by simp[Instr.findAsking,p], .inr ⟨0,e,by simp,rfl,by grind⟩⟩
   | false=>
     have A:e.key≠KP ka xs:=λE=>by
      have:=k.2 (qjP l.one d h (by grind));grind
     obtain⟨r,h1,h2⟩:=Nk l q es (i+1) (λe he=>b e (by grind));refine⟨r,by simp_all [Instr.findAsking],?_⟩;rcases h2 with⟨h2,h3⟩|⟨j,C,h2,h3,h4⟩
     grind
     ·exact .inr ⟨j+1,C,by grind,by grind,h4⟩
def To{t:TypeId}{ka:Bool}{ks:List KK}(b:KeyT P t ka ks){x:Value}(h:Ud w ka ks x)(es:List MapEntry)(a:∀e∈es,Ud w ka ks e.key):
 ∃r,(Instr.findKey t x es).run P w= .ok r w/\((r=none/\∀e∈es,e.key≠x)\/ ∃j e,r=some (j,e.val)/\es[j]? =some e/\e.key=x):=by
 obtain⟨k,h1,h2⟩:=xy b.c;have l:∃d,P.underlying t=some d:=by
  grind [gj]
 obtain⟨d,p⟩:=l;cases hn:Instr.findNow d x es 0 with
 | some r=>
   refine⟨r,by simp_all [Instr.findKey,run_underlying],?_⟩;grind [Nj]
 | none=>
   obtain⟨r,h3,h4⟩:=Nk b h es 0 a;simp_all [Instr.findKey,run_underlying]
theorem qcG{ka:Bool}{ks:List KK}(h1:ka=false->ks.length=1){x:Value}(a:Ud w ka ks x):Instr.sameBits 10000 x x=true:=by
 have cell:∀(n:Nat) (k:KK) (x:Value),qsr w k x->Instr.sameBits n x x=true:=λn k x h=>by
  cases k<;>grind [qsr,Instr.sameBits,qhJ]
 obtain⟨xs,rfl,b⟩:=a;cases ka with
 | false=>
   obtain⟨k,rfl⟩:=qCk.1 (h1 rfl);obtain⟨x,rfl,a⟩:=b.one;exact cell _ _ _ a
 | true=>
   simp only[KP,if_true,Instr.sameBits,beq_self_eq_true,qCu];have all:∀(ks:List KK) (xs:List Value),KVl w ks xs->(xs.zip xs).all (λx=>Instr.sameBits 9999 x.1 x.2)=true:=by
    intro ks
    induction ks with
    |nil=>intro xs h;cases xs with|nil=>rfl|cons=>exact h.elim
    | cons k ks c=>
      intro xs h;cases xs with
      |nil=>rfl
      |cons x xs=>simp[cell _ _ _ h.1];grind [KVl]
   grind
def qeG{ka:Bool}{ks:List KK}(h1:ka=false->ks.length=1){x:Value}(a:Ud w ka ks x):(Instr.keyThatStays x x).run P w= .ok x w:=by
 simp[Instr.keyThatStays,qcG h1 a]
variable {tp I:Nat->Prop}
def qgN{k:KK}{x:Value}{d:D}(a:qkl k d=true)(h:R tp I w x d):qsr w k x:=by
 unfold qkl at a;split at a
 ·rename_i k c n;have hk:k=c:=by grind
  have:=h.inv_v;subst hk;exact⟨_,this⟩
 ·exact⟨_,h.inv_v⟩
 ·exact⟨_,h.inv_v⟩
 ·rename_i cs off;cases h with
  |cptr b base _ _ f hI hz _ _ _=>exact .inr ⟨b,base+off,rfl,hz (by grind)⟩
 ·exact .inl h.inv_v
 grind
def qgM:∀{ks:List KK} {ds:List D} {xs:List Value},qkk ks ds=true->xs.length=ds.length->(∀(k:Nat) (x:Value) (c:D),xs[k]? =some x->ds[k]? =some c->R tp I w x c)->KVl w ks xs
 | [], [],xs,_,hl,_=>by
   have:=qBY.1 hl;subst this;trivial
 | k::ks,d::ds,x::xs,h,hl,a=>by
   simp only[qkk,qBh]at h;exact⟨qgN h.1 (a 0 x d rfl rfl),qgM h.2 (by grind) λk y c h1 h2=>a (k+1) y c h1 h2⟩
 | _::_,_::_, [],_,hl,_=>by grind
 | [],_::_,_,h,_,_=>by cases h
 | _::_, [],_,h,_,_=>by cases h
def Tn{ka:Bool}{ks:List KK}{x:Value}{d:D}(a:ZR ka ks d=true)(h:R tp I w x d):Ud w ka ks x:=by
 unfold ZR at a;cases ka with
 | true=>
   simp only[if_true]at a;cases d<;>simp only[uJ]at a<;>try (cases a;done)
   obtain⟨xs,rfl,hl,hc⟩:=h.inv_agg;exact⟨xs,rfl,qgM a hl λk y c h1 h2=>(hc k y c h1 h2).2⟩
 | false=>
   simp only[qB1,if_false]at a;split at a
   ·exact⟨[x],rfl,qgN a h,trivial⟩
   grind
def Sf{x y:Value}{d:D}(hp:Yo d=true)(h:R tp I w x d)(j:R tp I w y d):x=y:=by
 have one:∀(c:D),qxe c=true->∀{x y:Value},R tp I w x c->R tp I w y c->x=y:=λc hc x y h1 h2=>by
  cases c<;>first|(cases hc;done)|exact h1.inv_v.trans h2.inv_v.symm
 by_cases a:∃cs,d= .agg cs
 ·obtain⟨cs,rfl⟩:=a;obtain⟨xs,rfl,hl,hc⟩:=h.inv_agg;obtain⟨k,rfl,l,b⟩:=j.inv_agg;have:xs=k:=by
   refine List.ext_getElem (by omega) λi h1 h2=>?_
   have hi:i<cs.length:=by omega
   have p:qxe cs[i]=true:=qBi.1 hp _ (by simp[D.cells]);exact one _ p (hc i _ _ (qBe h1) (qBe hi)).2 (b i _ _ (qBe h2) (qBe hi)).2
  grind
 ·have q:d.cells=[d]:=by cases d<;>first|rfl|grind
  grind [Yo]
def R.ent{a b:Value}{k v:D}(h:R tp I w (.tuple #[a,b]) (.tup [k,v])):R tp I w a k/\R tp I w b v:=by
 generalize d:Value.tuple #[a,b]=q at h;cases h with
 | tup xs ds hl h=>
   have c:xs=[a,b]:=by
    grind
   subst c;exact⟨h 0 a k rfl rfl,h 1 b v rfl rfl⟩
def GO{ka:Bool}{ks:List KK}{d:D}(h:qdA ka ks d=true):∃k v,d= .tup [k,v]/\ZR ka ks k=true:=by
 unfold qdA at h;grind
def R.mk_ent{a b:Value}{k v:D}(h1:R tp I w a k)(h2:R tp I w b v):R tp I w (.tuple #[a,b]) (.tup [k,v]):=
 .tup [a,b] [k,v] rfl λi x c d hc=>by
  grind
end
section
variable {P:Program}{o:Oper}{a:Act}{E:zW}{tp I:Nat->Prop}{H:ab}{w:World}{σ:Sg}
def qbk{q:Value}{d:D}{Hr:ab}{K:List D->Prop}(l:R tp I w q d)(p:∀i r,Hr i=some r->H i=some r)(k:∀i r,H i=some r->ResOk (R tp I w) w r)(j:Gw d Hr K):
 ∃es,K es/\((q= .map none/\es=[])\/ ∃b c clock,q= .map (some b)/\w.heap[b]? =some (.map c clock)/\fy c clock/\zG (R tp I w) c es):=by
 unfold Gw at j;split at j
 ·rename_i es;cases l with
  |nomp=>grind
  |mp b c clock _ hI hh hl hb h=>exact⟨es,j, .inr ⟨b,c,clock,rfl,hh,hb,hl,h⟩⟩
 ·exact⟨[],j, .inl ⟨l.inv_v,rfl⟩⟩
 ·split at j
  ·rename_i t es s
   let ⟨rfl,hk⟩:=j
   obtain⟨b,c,clock,rfl,h1,h2,h3⟩:=k _ _ (p _ _ s);cases l<;>grind
  grind
 grind
def By{b:Array MapEntry}{es:List D}(h:zG (R tp I w) b es){j:Nat}{e:MapEntry}(he:b[j]? =some e):∃c,es[j]? =some c/\R tp I w (.tuple #[e.key,e.val]) c:=by
 have d:j<es.length:=by grind [zG]
 exact⟨es[j],qBe d,h.2 j e _ he (qBe d)⟩
def Tx{b:Array MapEntry}{es:List D}{ka:Bool}{ks:List KK}(h:zG (R tp I w) b es)(l:es.all (qdA ka ks)=true):∀e∈b.toList,Ud w ka ks e.key:=by
 intro e he
 let ⟨j,q⟩:=qBA.1 he
 have d:b[j]? =some e:=by grind
 let ⟨c,hc,p⟩:=By h d
 obtain⟨k,v,rfl,hk⟩:=GO (qBi.1 l c (qBf hc));exact Tn hk p.ent.1
theorem qce{t:TypeId}{z:List Value}{agg:Bool}(hz:cg P t=some z)(b:K8 P t agg=true):∃d,(zeroValue t).run P w= .ok d w/\R tp I w d (Ug agg z):=by
 let ⟨i,d,hi,q,h,A,j,r⟩:=dU hz
 refine⟨d,by simp_all [zeroValue,typeInfo],?_⟩;have l:=kC (tp:=tp) (I:=I) (w:=w) r j;simp[K8,hi,q]at b;split at b
 ·rename_i cs p;cases p;subst b;simp[Ug];rw[<-h];have:(Value.agg cs)= .agg cs.toList.toArray:=by simp
  have s:(Value.agg cs).cells.toList=cs.toList:=rfl;rw[s];rw[<-h]at l j;have h2:=R.agg (tp:=tp) (I:=I) (w:=w) cs.toList (cs.toList.map qd) (by simp) (λx y=>qBi.1 j x y) (λk x c h1 h2=>(l k x c h1 h2).2);omega
 ·rename_i x C y;simp[qC8]at b
  let ⟨rfl,h1⟩:=b
  have u:d.cells= #[d]:=by cases d<;>first|rfl|grind
  rw[u]at h;subst h;have:=l 0 d (qd d) rfl rfl;grind [Ug]
 grind
theorem qds{t u Q:TypeId}{x k:Operand}{ok agg ka:Bool}{ks:List KK}{z:List Value}{K:D->Prop}(ho:o.op= .lookup t x k ok)(ht:P.underlying t=some (.map u Q))(q:KeyT P u ka ks)(hz:cg P Q=some z)(S:K8 P Q agg=true)
 (hx:R tp I w (a.eval x) (ev σ x)) (hk:R tp I w (a.eval k) (ev σ k)) {Hr:ab} (U:∀i r,Hr i=some r->H i=some r) (y:∀i r,H i=some r->ResOk (R tp I w) w r)
 (hv:aj (.m (.look ok agg ka ks z) [x,k]) σ Hr K):Good P o a tp I w K:=by
 simp[aj,qCn]at hv
 let ⟨es,⟨p,W,l,Y⟩,hm⟩:=qbk hx U y hv
 have A:=Tn W hk
 let ⟨zv,C,F⟩:=qce (P:=P) (w:=w) (tp:=tp) (I:=I) hz S
 have J:∀Z,(Instr.checkKey Z 10000 u (a.eval k)).run P w= .ok () w:=λZ=>by
  let ⟨xs,h1,h2⟩:=A
  rw[h1];exact qrT Z 50 u ks ka q.c q.a 9950 xs h2
 have main:∀(d:Array MapEntry),(∀e∈d.toList,Ud w ka ks e.key)->(∀(j:Nat) (e:MapEntry),d[j]? =some e->∃c,es[j]? =some c/\R tp I w (.tuple #[e.key,e.val]) c)->
  (∀c∈es,∃e∈d.toList,R tp I w (.tuple #[e.key,e.val]) c)->
  (∀r:Option (Nat×Value),(Instr.findKey u (a.eval k) d.toList).run P w= .ok r w->(execOp a.eval o).run P w= .ok (.value (match r with|some (_,v)=>if ok then .tuple #[v, .bool true]else v|none=>if ok then .tuple #[zv, .bool false]else zv)) w)->Good P o a tp I w K:=by
  intro d h1 h2 h3 L
  let ⟨r,M,s⟩:=To (P:=P) q A d.toList h1
  have hex:=L r M;rcases s with⟨rfl,hne⟩|⟨j,e,rfl,hj,hke⟩
  ·refine⟨_,qtW ok (Ug agg z) false,hex,?_,Y λhp v N=>?_⟩
   ·cases ok with
    |true=>exact R.mk_ent F (.bool _)
    |false=>exact F
   ·let ⟨e,he,O⟩:=h3 _ N
    exact hne e he (Sf hp O.ent.1 hk)
  ·let ⟨c,hc,O⟩:=h2 j e (by grind)
   obtain⟨k',v',rfl,_⟩:=GO (qBi.1 p c (qBf hc));refine⟨_,qtW ok v' true,hex,?_,l k' v' (qBf hc) ⟨tp,I,w,a.eval k,hk,by rw[<-hke];exact O.ent.1⟩⟩;cases ok with
   |true=>exact R.mk_ent O.ent.2 (.bool _)
   |false=>exact O.ent.2
 rcases hm with⟨hq,rfl⟩|⟨b,d,clock,hq,hb,hbo,h⟩
 ·refine main #[] (λe he=>by simp at he) (λj e he=>by simp at he) (λc hc=>by simp at hc) λr M=>?_
  have hr':(Instr.findKey u (a.eval k) []).run P w= .ok r w:=M;simp[execOp,ho,hq,Instr.lookup,run_underlying ht,J,hr'];rcases r with _|⟨i,v⟩ <;>cases ok<;>simp[C]
 ·refine main d (Tx h p) (λj e he=>By h he) (λc hc=>?_) λr M=>?_
  ·let ⟨j,hj⟩:=qBA.1 hc
   have hlt:j<d.size:=by rw[h.1];exact(qBc.1 hj).1
   exact⟨d[j],by simp,h.2 j _ c (by simp) hj⟩
  ·simp[execOp,ho,hq,Instr.lookup,run_underlying ht,J,M,getObj,Sem.run,hb];rcases r with _|⟨i,v⟩ <;>cases ok<;>simp[C]
theorem qdq{t y A:TypeId}{c:Call}{x:Operand}{K:D->Prop}(ho:o.op= .call c)(hc:c.callee= .builtin .len)(k:c.argTypes.toList=[t])(d:c.args.toList=[x])(q:P.underlying t=some (.map y A))
 (C:R tp I w (a.eval x) (ev σ x)) {Hr:ab} (l:∀i r,Hr i=some r->H i=some r) (j:∀i r,H i=some r->ResOk (R tp I w) w r)
 (s:aj (.m .len [x]) σ Hr K):Good P o a tp I w K:=by
 let ⟨cl,⟨args⟩,⟨F⟩⟩:=c
 subst k;subst d;subst hc;simp[aj,qCn]at s
 let ⟨es,hk,hm⟩:=qbk C l j s
 rcases hm with⟨p,rfl⟩|⟨b,u,clock,p,hb,J,h⟩
 ·exact⟨_,_,by simp[execOp,ho,resolve,invoke,builtin,p,Builtin.len_,run_underlying q,goInt], .int _ _,hk⟩
 ·refine⟨.int .i64 es.length,_,?_, .int _ _,hk⟩;rw[<-h.1];simp[execOp,ho,resolve,invoke,builtin,p,Builtin.len_,run_underlying q,goInt,getObj,Sem.run,hb]
theorem qbj{m:Option Nat}{since last:Nat}{seen:Array Nat}{cur ds:List D}(h:R tp I w (M1 m since seen last) (.mst cur ds)):
 (m=none/\cur=[]/\ds=[])\/ ∃b es clock ce,m=some b/\I b/\w.heap[b]? =some (.map es clock)/\fy es clock/\(∀e∈es.toList,e.born<since)/\since<=last/\since<=clock/\(iE es seen).length=ds.length/\
   (cur=[]\/(cur.length=1/\seen.back? =some ce.born/\ce∈es.toList/\last=clock))/\(∀c,cur=[c]->R tp I w (.tuple #[ce.key,ce.val]) c)/\∀(k:Nat) (e:MapEntry) (c:D),(iE es seen)[k]? =some e->ds[k]? =some c->R tp I w (.tuple #[e.key,e.val]) c:=by
 generalize p:M1 m since seen last=q at h;have d:∀s j:Array Nat,(s.map λ(n:Nat)=>Value.int .i64 n)=(j.map λ(n:Nat)=>Value.int .i64 n)->s=j:=λs j h=>by
  grind [M1,Array.toList_map,List.map_inj_right,Array.toList_inj]
 cases h with
 | nomst s l r=>
   simp[M1]at p;grind
 | mst b es clock s l r ce _ _ hI hh hb hs hsl hl hc hcr h=>
   simp[M1]at p;grind
theorem ZJ{x:Operand}{K:D->Prop}(ho:o.op= .entry x)(F:R tp I w (a.eval x) (ev σ x)){Hr:ab}(t:∀i r,Hr i=some r->H i=some r)(k:∀i r,H i=some r->ResOk (R tp I w) w r)
 (d:aj (.m .entry [x]) σ Hr K):Good P o a tp I w K:=by
 simp[aj,Bb,qCn]at d;generalize hq:a.eval x=q at F;split at d<;>try (exact d.elim)
 grind;grind
 ·rename_i ds id b off _ A;simp[and_true]at A;rw[A]at F
  let ⟨rfl,d⟩:=d
  split at d
  ·rename_i b' e left J
   let ⟨rfl,hk⟩:=d
   cases F
   let ⟨m,since,last,seen,S,U⟩:=k _ _ (t _ _ J)
   rcases qbj U with⟨_,h,_⟩|⟨W,es,clock,ce,rfl,hI,hb,u,hs,hsl,Y,hl,hc,hcr,O⟩
   grind
   ·rcases hc with h|⟨_,L,p,rfl⟩;grind
    ·have Z:es.find? (·.born==ce.born)=some ce:=by rw[<-Array.find?_toList];exact find_born ce es.toList u.2 p
     refine⟨.tuple #[ce.key,ce.val],e,?_,hcr e rfl,hk⟩;simp_all [execOp,Instr.entry,getObj,Sem.run]
  ·rename_i b' m xm clk seen J
   let ⟨rfl,d⟩:=d
   unfold qbR at d;split at d
   ·rename_i x' es st Q hM
    let ⟨rfl,rfl,d⟩:=d
    split at d
    ·rename_i s hs
     let ⟨C,hK⟩:=d
     cases F;obtain⟨mb,rfl,S⟩:=k _ _ (t _ _ J);obtain⟨W,l,M,hb,u,rfl,y⟩:=k _ _ (t _ _ hM);cases M;obtain⟨ce,p,rfl⟩:=qBr.1 C;have L:seen.toArray.back? =some ce.born:=by grind
     have Z:l.find? (·.born==ce.born)=some ce:=by rw[<-Array.find?_toList];exact find_born ce l.toList u.2 p
     let ⟨j,hj⟩:=qBA.1 p
     have N:l[j]? =some ce:=by grind
     let ⟨c,hc,hR⟩:=By y N
     refine⟨.tuple #[ce.key,ce.val],c,?_,hR,hK j c (by grind) hc⟩;simp_all [execOp,Instr.entry,getObj,Sem.run]
    grind
   grind
  grind
 grind
theorem qdw{t el:TypeId}{len sz:Nat}{x i:Operand}{K:D->Prop}(ho:o.op= .indexAddr t x i)(q:P.underlying t=some (.array len el))(hs:cj P el=some sz)
 (r:R tp I w (a.eval x) (ev σ x)) (hi:R tp I w (a.eval i) (ev σ i)) {Hr:ab} (j:aj (.m (.aidx len sz) [x,i]) σ Hr K):Good P o a tp I w K:=by
 simp[aj,qCn]at j;generalize hid:ev σ i=id at hi j;have main:∀(l:IntKind) (k:Int),a.eval i= .int l k->0<=k->k<len->qgR (k.toNat*sz) (ev σ x) K->Good P o a tp I w K:=by
  intro l k hk h0 h1 hm;refine tN (d:=k.toNat*sz) (x:=x) (λb off hb=>?_) r (H:=λ_=>none) hm;simp[execOp,ho,hk,hb,Instr.indexAt,asIntOf,run_underlying q,Instr.sureAddr,h0,h1,aQ hs,kA]
 unfold Bb at j;split at j<;>try (exact j.elim)
 all_goals first
  |(rename_i h _;cases h)
  |skip
 rename_i p c;simp[and_true]at c;obtain⟨rfl,rfl⟩:=c;grind [Good,cj,hi.inv_v]
theorem tb{w:World}{b:Nat}{c:Obj}(o:Obj)(hb:w.heap[b]? =some c):(setBlock w b o).heap[b]? =some o:=by
 grind [setBlock]
def Tc{w:World}{b c:Nat}(o:Obj)(h:c≠b):(setBlock w b o).heap[c]? =w.heap[c]?:=by
 grind [setBlock]
theorem xz(w:World)(b:Nat)(o:Obj):GrB w (setBlock w b o) (some b):=
 ⟨⟨rfl,rfl,rfl,by simp[setBlock],λk _ hk=>Tc o (λe=>hk (by rw[e]))⟩,qBj _⟩
def qqf{t ty:Nat}{K:D->ab->Prop}(d:StW E tp H w)(ho:o.op= .makeMap ty none)(h:∀x,K (.own t x) (ak H t (some (.mrow x [])))):cP P o a E tp H w K:=by
 refine⟨_, .map (some w.heap.size), .own t (.map (some w.heap.size)),_,w.alloc (.map #[] 0),?_, .inl rfl,qB (r':= .mrow (.map (some w.heap.size)) []) d (λb hb=>by cases hb;rfl) (λm=>?_), .own _ _ rfl,h _⟩
 ·simp[execOp,ho,qBy];rfl
 ·exact⟨w.heap.size, #[],0,rfl,heap_alloc_new _ _,⟨λe he=>by grind,by simp⟩,rfl,λk e c he=>by simp⟩
def Yb{es:Array MapEntry}{clock i:Nat}{k v:Value}(h:fy es clock):fy (es.modify i λe=>{ e with key:=k,val:=v }) clock:=by
 have hm:((es.modify i λe=>{ e with key:=k,val:=v }).toList.map (·.born))=es.toList.map (·.born):=by
  refine qBX λj=>?_
  grind
 refine⟨λe he=>?_,by grind [fy]⟩;have:e.born∈ (es.modify i λe=>{ e with key:=k,val:=v }).toList.map (·.born):=qBr.2 ⟨e,he,rfl⟩;grind [fy]
def qdP{es:Array MapEntry}{clock:Nat}{k v:Value}(h:fy es clock):fy (es.push { key:=k,val:=v,born:=clock }) (clock+1):=by
 refine⟨λe he=>?_,?_⟩
 ·rw[Array.toList_push,qBo,qCo]at he;rcases he with he|rfl;grind [fy];simp
 grind [fy]
theorem qfO{ty kt et:TypeId}{x k v:Operand}{ka:Bool}{ks:List KK}{K:D->ab->Prop}(hst:StW E tp H w)(ho:o.op= .mapUpdate ty x k v\/o.op= .insert ty x k v)(ht:P.underlying ty=some (.map kt et))(t:KeyT P kt ka ks)
 (hx:R tp (aW E.O tp H w) w (a.eval x) (ev σ x)) (hk:R tp (aW E.O tp H w) w (a.eval k) (ev σ k)) (hvv:R tp (aW E.O tp H w) w (a.eval v) (ev σ v))
 (Z:bc (.m (.upd ka ks) [x,k,v]) o.dst σ H K):cP P o a E tp H w K:=by
 simp[bc,qCn]at Z;generalize hq:a.eval x=q at hx;generalize hxd:ev σ x=xd at hx Z;cases xd<;>try (exact Z.elim)
 ·rename_i id xv;cases hx;simp[nH]at Z;split at Z
  ·rename_i x' es hH
   let ⟨rfl,F,hfk,hup,hno⟩:=Z
   have hsat:∀i r,H i=some r->ResOk (R tp (aW E.O tp H w) w) w r:=hst.sat.ok;obtain⟨b,s,clock,rfl,hb,hbo,h⟩:=hsat _ _ hH;have J:=Tn hfk hk;have hck:(Instr.checkKey false 10000 kt (a.eval k)).run P w= .ok () w:=by
    let ⟨xs,h1,h2⟩:=J
    rw[h1];exact qrT false 50 kt ks ka t.c t.a 9950 xs h2
   let ⟨r,hr,L⟩:=To (P:=P) t J s.toList (Tx h F)
   have hset:∀ob:Obj,(setObj b ob).run P w= .ok () (setBlock w b ob):=λob=>by grind [StW,KeyT,setObj,Sem.run,setBlock]
   have wK:∀(p:Array MapEntry) (l:Nat) (es':List D),(Instr.mapUpdate ty (.map (some b)) (a.eval k) (a.eval v)).run P w= .ok () (setBlock w b (.map p l))->fy p l->
    (∀(Q:Value->D->Prop),(∀y d,R tp (aW E.O tp H w) w y d->Q y d)->(∀(k' v':Value) (c d:D),Q k' c->Q v' d->Q (.tuple #[k',v']) (.tup [c,d]))->zG Q p es')->K .undef (ak H id (some (.mrow (.map (some b)) es')))->cP P o a E tp H w K:=by
    intro p l es' hrun hbo' u hK;have hm:=hst.own id (some (.mrow (.map (some b)) es')) (xz w b (.map p l)) (λc hc=>by cases hc;exact⟨_,hH,rfl⟩) (λr c h1 h2=>by cases h1;cases h2;exact .inr ⟨_,hH,rfl⟩) (λm r h1=>by
     cases h1;exact⟨b,p,l,rfl,tb _ hb,hbo',u _ m λk' v' c d h1 h2=>R.mk_ent h1 h2⟩)
    refine⟨.skip,Go.undef, .undef,_,_,?_, .inr ⟨rfl,rfl⟩,hm, .undef,hK⟩;rcases ho with ho|ho<;>simp[execOp,ho,hq,hrun]
   rcases L with⟨rfl,hne⟩|⟨j,e,rfl,hj,hke⟩
   ·refine wK (s.push { key:=a.eval k,val:=a.eval v,born:=clock }) (clock+1) (es++ [.tup [ev σ k,ev σ v]]) ?_ (qdP hbo) (λQ M hT=>⟨by simp[h.1],λi e c he hc=>?_⟩) (hno λhp v' hmem=>?_);simp_all [Instr.mapUpdate,getObj,Sem.run,run_underlying]
    ·rw[Array.getElem?_push]at he;split at he
     ·rename_i hi;cases he;rw[qBL (by rw[<-h.1];lia)]at hc;rw[<-h.1,hi]at hc;simp at hc;subst hc;exact hT _ _ _ _ (M _ _ hk) (M _ _ hvv)
     ·have N:=(qBn.1 he).1;rw[qBN (by rw[<-h.1];exact N)]at hc;exact M _ _ (h.2 i e c he hc)
    ·let ⟨i,hi⟩:=qBA.1 hmem
     have N:i<s.size:=by rw[h.1];exact(qBc.1 hi).1
     have hR:=h.2 i s[i] _ (by simp[N]) hi;exact hne s[i] (by simp) (Sf hp hR.ent.1 hk)
   ·have S:s[j]? =some e:=by simpa using hj
    let ⟨c,hc,hR⟩:=By h S
    obtain⟨k',v',rfl,_⟩:=GO (qBi.1 F c (qBf hc));have U:j<es.length:=(qBc.1 hc).1;have A:es=es.take j++D.tup [k',v']::es.drop (j+1):=by
     have h1:=(qBc.1 hc).2;rw[<-h1,<-qBU U,qBI]
    have W:es.take j++D.tup [ev σ k,ev σ v]::es.drop (j+1)=es.set j (.tup [ev σ k,ev σ v]):=by
     rw[qCW,if_pos U]
    have hK:=hup _ k' v' _ A ⟨tp,aW E.O tp H w,w,a.eval k,hk,by rw[<-hke];exact hR.ent.1⟩;rw[W]at hK;refine wK (s.modify j λe=>{ e with key:=a.eval k,val:=a.eval v }) clock (es.set j (.tup [ev σ k,ev σ v])) ?_ (Yb hbo) (λQ M hT=>⟨by simp[h.1],λi e2 c2 he C=>?_⟩) hK
    ·have hst2:(Instr.keyThatStays e.key (a.eval k)).run P w= .ok (a.eval k) w:=by rw[hke];exact qeG t.one J
     simp[Instr.mapUpdate,run_underlying ht,getObj,Sem.run,hb,hck,hr,hset,S,hst2]
    ·rw[qC0]at he;by_cases Y:j=i
     ·subst Y;rw[if_pos rfl,S]at he;cases he;rw[qCl U]at C;cases C;exact hT _ _ _ _ (M _ _ hk) (M _ _ hvv)
     ·rw[if_neg Y]at he;rw[List.getElem?_set_ne Y]at C;exact M _ _ (h.2 i e2 c2 he C)
  grind
def qjO{b:Nat}{d:Array MapEntry}{clock:Nat}{es:List D}(hI:I b)(hb:w.heap[b]? =some (.map d clock))(l:fy d clock)(j:zG (R tp I w) d es):R tp I w (M1 (some b) clock #[] clock) (.mst [] es):=by
 have hl:iE d #[]=d.toList:=by simp[iE]
 refine .mst b d clock clock clock #[] default [] es hI hb l l.1 ⟨qBj _,qBj _⟩ (by rw[hl];exact j.1) (.inl rfl) (λc h=>by cases h) (λk e c he hc=>?_);rw[hl,qBD]at he;exact j.2 k e c he hc
theorem qm3{t ty S U:TypeId}{x:Operand}{K:D->ab->Prop}(p:StW E tp H w)(ho:o.op= .range ty x)(ht:P.underlying ty=some (.map S U))(u:R tp (aW E.O tp H w) w (a.eval x) (ev σ x))(W:o.dst=some t)
 (l:bc (.m .rng [x]) o.dst σ H K):cP P o a E tp H w K:=by
 simp[bc,nH,W]at l;generalize hq:a.eval x=q at u;have wK:∀(m:Option Nat) (clock:Nat) (es:List D),(Instr.range ty q).run P w= .ok (.pointer (some ⟨w.heap.size,0,none⟩)) (w.alloc (.mapIter m clock #[] clock))->(∀(A:Nat->Prop) (w':World),(∀y d,R tp (aW E.O tp H w) w y d->R tp A w' y d)->R tp A w' (M1 m clock #[] clock) (.mst [] es))->
  (∀b,K (.bptr t b 0) (ak H t (some (.miter b [] es))))->cP P o a E tp H w K:=by
  intro m clock es N Y L;refine⟨_, .pointer (some ⟨w.heap.size,0,none⟩), .bptr t w.heap.size 0,_,w.alloc (.mapIter m clock #[] clock),?_, .inl rfl,qB (r':= .miter w.heap.size [] es) p (λb hb=>by cases hb;rfl) (λmv=>⟨m,clock,clock, #[],heap_alloc_new _ _,Y _ _ mv⟩), .bptr _ _ _,L _⟩;grind [execOp,Sem.run_bind,Result.andThen_ok,Sem.run_pure]
 split at l
 ·rename_i es C;rw[C]at u;cases u with
  |nomp=>exact wK none 0 [] (by grind [run_range_nilMap]) (λA w' _=> .nomst _ _ _) l
  | mp b j clock _ hI hh hl hb h=>
    exact wK (some b) clock es (by grind [StW,D,ev,aW,fy,cP,run_range_map]) (λA w' mv=>mv _ _ (qjO hI hh hb ⟨hl,h⟩)) l
 ·rename_i C;rw[C]at u;have:=u.inv_v;exact wK none 0 [] (by grind [StW,D,ev,run_range_nilMap]) (λA w' _=> .nomst _ _ _) l
 ·rename_i id xv C;rw[C]at u;cases u;unfold qfq at l;split at l
  ·rename_i x' es Q
   let ⟨rfl,L⟩:=l
   obtain⟨b,j,clock,rfl,h1,h2,h3⟩:=p.sat.ok _ _ Q;have F:=p.own id (some (.raw (.mrs (.map (some b)) es (j.toList.map (·.born)) clock))) (fL w none) (λc hc=>by grind) (λr c M Z=>by cases M;exact .inr ⟨_,Q,Z⟩) (λmv r M=>by
    cases M;exact⟨b,j,rfl,h1,h2,rfl,h3.1,λk e c he hc=>mv _ _ (h3.2 k e c he hc)⟩)
   have J:=qB (t:=t) (ob:= .mapIter (some b) clock #[] clock) (r':= .raw (.mit w.heap.size id (.map (some b)) clock [])) F.1 (λc hc=>by cases hc;rfl) (λmv=>⟨b,rfl,heap_alloc_new _ _⟩);refine⟨_, .pointer (some ⟨w.heap.size,0,none⟩), .bptr t w.heap.size 0,_,w.alloc (.mapIter (some b) clock #[] clock),?_, .inl rfl,⟨J.1,λy d h=>J.2 _ _ (F.2 _ _ h)⟩, .bptr _ _ _,L w.heap.size _ clock ⟨by rw[qBO];exact h3.1,h2.2,λs hs=>?_⟩⟩;grind [execOp,Sem.run_bind,Result.andThen_ok,Sem.run_pure,run_range_map];grind [fy]
  grind
 grind
def Vo{α:Type}{l:List α}{j:Nat}{x:α}(h:l[j]? =some x):l=l.take j++x::l.drop (j+1):=by
 grind [List.drop_eq_getElem_cons,List.take_append_drop]
def qdf{es:Array MapEntry}{seen:Array Nat}{c d:List MapEntry}{e:MapEntry}(hn:(es.toList.map (·.born)).Nodup)(h:iE es seen=c++e::d):iE es (seen.push e.born)=c++d:=by
 have b:((iE es seen).map (·.born)).Nodup:=by
  refine List.Nodup.sublist (List.Sublist.map _ List.filter_sublist) hn
 rw[h]at b;have h2:iE es (seen.push e.born)=(iE es seen).filter λy=>!(y.born==e.born):=by
  simp[iE];grind
 rw[h2,h,qCS];have he:(!(e.born==e.born))=false:=by simp
 simp[if_false];grind [List.filter_eq_self]
theorem qjD{x:Operand}{K:D->ab->Prop}(u:StW E tp H w)(ho:o.op= .next x false)(hx:R tp (aW E.O tp H w) w (a.eval x) (ev σ x))(A:bc (.m .next [x]) o.dst σ H K):cP P o a E tp H w K:=by
 simp[bc,qCn]at A;generalize hq:a.eval x=q at hx;generalize hxd:ev σ x=xd at hx A;cases xd<;>try (exact A.elim)
 rename_i id b off;simp[nH]at A;obtain⟨rfl,A⟩:=A;cases hx;split at A
 ·rename_i b' cur left U
  let ⟨rfl,h1,h2⟩:=A
  let ⟨m,since,last,seen,W,g2⟩:=u.sat.ok id _ U
  have over:(Instr.next (.pointer (some ⟨b',0,none⟩)) false o.type).run P w= .ok (.tuple #[.bool false]) w->left=[]->cP P o a E tp H w K:=λl hl=>
   ⟨_,_,_,_,w,by grind [StW,D,ev,execOp,Sem.run_bind,Result.andThen_ok,Sem.run_pure], .inl rfl,⟨u,λy e h=>h⟩, .tup [.bool false] [.v (.bool false)] rfl (λk y c h1 h2=>by
    match k with
    | 0=>simp at h1 h2;subst h1;subst h2;exact .bool _
    |k+1=>grind),h1 hl⟩
  rcases qbj g2 with⟨rfl,_,hl⟩|⟨Q,es,clock,ce,rfl,hI,hb,F,hs,hsl,hsc,hl,hc,hcr,J⟩
  ·exact over (by simp[Instr.next,getObj,Sem.run,W]) hl
  ·rcases run_next_at (P:=P) w o.type b' Q since last seen es clock W hb hs hsl with⟨h0,l⟩|⟨e,he,w1,L,l⟩
   ·have:(iE es seen).length=0:=by
     have h3:(leftOf es seen).toList=iE es seen:=by simp[leftOf,iE]
     grind
    grind
   ·have h3:(leftOf es seen).toList=iE es seen:=by simp[leftOf,iE]
    rw[h3]at he
    let ⟨j,hj⟩:=qBA.1 he
    have hjl:j<left.length:=by grind
    have hd:left[j]? =some left[j]:=qBe hjl;have hR:=J j e _ hj hd;have hsp:=Vo hj;have hds:=Vo hd;have M:=qdf F.2 hsp;have Y:GrB w (setBlock w1 b' (.mapIter (some Q) since (seen.push e.born) clock)) (some b'):=by
     rcases L with rfl|rfl;grind [GrB,D,ev,fy,iE,StW,cP,xz]
     ·have:=xz w.drew b' (.mapIter (some Q) since (seen.push e.born) clock);exact⟨⟨rfl,rfl,rfl,this.size,this.block⟩,qCt _⟩
    have Z:(setBlock w1 b' (.mapIter (some Q) since (seen.push e.born) clock)).heap[b']? =some (.mapIter (some Q) since (seen.push e.born) clock):=by
     rcases L with rfl|rfl;grind [D,ev,fy,iE,StW,cP,tb]
     ·exact tb (w:=w.drew) _ W
    have hlen:(left.take j++left.drop (j+1)).length=((iE es seen).take j++ (iE es seen).drop (j+1)).length:=by
     simp[qBJ,qBC,qCc,hl]
    have hgood:R tp (aW E.O tp H w) w (M1 (some Q) since (seen.push e.born) clock) (.mst [left[j]] (left.take j++left.drop (j+1))):=by
     refine .mst Q es clock since clock (seen.push e.born) e _ _ hI hb F hs ⟨hsc,hsc⟩ (by rw[M,hlen]) (.inr ⟨rfl,by simp,?_,rfl⟩) (λc hc=>by cases hc;exact hR) (λk y c hy hc=>?_)
     ·have:=qBf hj;exact(qCM.1 this).1
     ·rw[M]at hy;by_cases hk:k<j
      ·rw[qBN (by rw[qBC];have:=(qBc.1 hj).1;lia),qBv,if_pos hk]at hy;rw[qBN (by rw[qBC];lia),qBv,if_pos hk]at hc;exact J k y c hy hc
      ·have hjl2:=(qBc.1 hj).1;have e1:((iE es seen).take j).length=j:=by rw[qBC];lia
       have e2:(left.take j).length=j:=by rw[qBC];lia
       rw[qBL (by rw[e1];lia),qCb,e1]at hy;rw[qBL (by rw[e2];lia),qCb,e2]at hc;exact J _ y c hy hc
    have hm:=u.own id (some (.miter b' [left[j]] (left.take j++left.drop (j+1)))) Y (λc hc=>by cases hc;exact⟨_,U,rfl⟩) (λr c h1 h2=>by cases h1;cases h2;exact .inr ⟨_,U,rfl⟩) (λm r h1=>by
     cases h1;exact⟨some Q,since,clock,seen.push e.born,Z,m _ _ hgood⟩)
    refine⟨_,_, .tup [.v (.bool true), .any, .any],_,_,by simp[execOp,ho,hq,qBy,l,qBp,qBG], .inl rfl,hm, .tup [.bool true,e.key,e.val] _ rfl (λk y c h1 h2=>by
     match k with
     | 0=>simp at h1 h2;subst h1;subst h2;exact .bool _
     | 1=>simp at h1 h2;subst h1;subst h2;exact .any _
     | 2=>simp at h1 h2;subst h1;subst h2;exact .any _
     |k+3=>simp at h1),h2 _ _ _ hds⟩
 ·rename_i b' m xm clock seen U
  let ⟨rfl,A⟩:=A
  unfold qfU at A;split at A
  ·rename_i x' es st d hM
   let ⟨rfl,rfl,h0,h1⟩:=A
   obtain⟨S,rfl,W⟩:=u.sat.ok id _ U;obtain⟨Q,t,hbm,hb,F,rfl,N⟩:=u.sat.ok m _ hM;cases hbm;have h3:(leftOf t seen.toArray).toList=iE t seen.toArray:=by simp[leftOf,iE]
   rcases run_next_at (P:=P) w o.type b' S d d seen.toArray t d W hb F.1 (qBj _)with⟨hz,l⟩|⟨e,he,w1,L,l⟩
   ·have hm:=u.own m (some (.mrow (.map (some S)) es)) (fL w none) (λc hc=>by cases hc) (λr c p C=>by cases p;exact .inr ⟨_,hM,C⟩) (λmv r p=>by
     cases p;exact⟨S,t,d,rfl,hb,F,N.1,λk e c he hc=>mv _ _ (N.2 k e c he hc)⟩)
    refine⟨_,_, .tup [.v (.bool false)],_,w,by simp[execOp,ho,hq,qBy,l,qBp,qBG], .inl rfl,hm, .tup [.bool false] [.v (.bool false)] rfl (λk y c p C=>by
     match k with
     | 0=>simp at p C;subst p;subst C;exact .bool _
     |k+1=>simp at p),h0 λs hs=>?_⟩
    have h4:iE t seen.toArray=[]:=qBY.1 (by rw[<-h3,qB5];exact hz);obtain⟨e,he,rfl⟩:=qBr.1 hs;have h5:=List.filter_eq_nil_iff.1 h4 e he;simpa using h5
   ·rw[h3]at he
    let ⟨he1,he2⟩:=qCM.1 he
    have hns:e.born∉seen:=by simpa using he2
    have Y:GrB w (setBlock w1 b' (.mapIter (some S) d (seen.toArray.push e.born) d)) (some b'):=by
     rcases L with rfl|rfl
     ·exact xz _ _ _
     ·have:=xz w.drew b' (.mapIter (some S) d (seen.toArray.push e.born) d);exact⟨⟨rfl,rfl,rfl,this.size,this.block⟩,qCt _⟩
    have Z:(setBlock w1 b' (.mapIter (some S) d (seen.toArray.push e.born) d)).heap[b']? =some (.mapIter (some S) d (seen.toArray.push e.born) d):=by
     rcases L with rfl|rfl
     ·exact tb _ W
     ·exact tb (w:=w.drew) _ W
    have hm:=u.own id (some (.raw (.mit b' m (.map (some S)) d (seen++ [e.born])))) Y (λc hc=>by cases hc;exact⟨_,U,rfl⟩) (λr c p C=>by cases p;cases C;exact .inr ⟨_,U,rfl⟩) (λmv r p=>by
     cases p;exact⟨S,rfl,by rw[Z];simp⟩)
    refine⟨_,_, .tup [.v (.bool true), .any, .any],_,_,by simp[execOp,ho,hq,qBy,l,qBp,qBG], .inl rfl,hm, .tup [.bool true,e.key,e.val] _ rfl (λk y c p C=>by
     match k with
     | 0=>simp at p C;subst p;subst C;exact .bool _
     | 1=>simp at p C;subst p;subst C;exact .any _
     | 2=>simp at p C;subst p;subst C;exact .any _
     |k+3=>simp at p),h1 _ (qBr.2 ⟨e,he1,rfl⟩) hns⟩
  ·exact A.elim
 grind
def IJ{α b:Type}(f:α->b):∀(l:List α) (i:Nat),(l.eraseIdx i).map f=(l.map f).eraseIdx i
 | [],i=>by simp
 |a::l,0=>by simp
 |a::l,i+1=>by simp[IJ f l i]
theorem qm4{t kt et Q:TypeId}{c:Call}{x k:Operand}{ka:Bool}{ks:List KK}{K:D->ab->Prop}(S:StW E tp H w)(ho:o.op= .call c)(hc:c.callee= .builtin .delete)(hat:c.argTypes.toList=[t,Q])(hargs:c.args.toList=[x,k])(ht:P.underlying t=some (.map kt et))(F:KeyT P kt ka ks)
 (hx:R tp (aW E.O tp H w) w (a.eval x) (ev σ x)) (hk:R tp (aW E.O tp H w) w (a.eval k) (ev σ k)) (N:bc (.m (.del ka ks) [x,k]) o.dst σ H K):cP P o a E tp H w K:=by
 let ⟨cl,⟨args⟩,⟨ats⟩⟩:=c
 simp[bc,qCn]at N;generalize hq:a.eval x=q at hx;generalize hxd:ev σ x=xd at hx N;cases xd<;>try (exact N.elim)
 rename_i id xv;cases hx;simp[nH]at N;split at N
 ·rename_i x' es st clock hH
  let ⟨rfl,A,hfk,hup,hno⟩:=N
  obtain⟨b,d,rfl,hb,J,rfl,l⟩:=S.sat.ok _ _ hH;have U:=Tn hfk hk;have W:∀em,(Instr.checkKey em 10000 kt (a.eval k)).run P w= .ok () w:=λem=>by
   let ⟨xs,h1,h2⟩:=U
   rw[h1];exact qrT em 50 kt ks ka F.c F.a 9950 xs h2
  let ⟨r,hr,L⟩:=To (P:=P) F U d.toList (Tx l A)
  have C:∀ob:Obj,(setObj b ob).run P w= .ok () (setBlock w b ob):=λob=>by grind [StW,KeyT,setObj,Sem.run,setBlock]
  have wK:∀(p:Array MapEntry) (es':List D) (y:List Nat),(∀ty,(Builtin.delete_ #[t,Q] ty #[.map (some b),a.eval k]).run P w= .ok (.tuple #[]) (setBlock w b (.map p clock)))->fy p clock->p.toList.map (·.born)=y->
   zG (R tp (aW E.O tp H w) w) p es'->K (.tup []) (ak H id (some (.raw (.mrs (.map (some b)) es' y clock))))->cP P o a E tp H w K:=by
   intro p es' y hrun Y Z s hK;have hm:=S.own id (some (.raw (.mrs (.map (some b)) es' y clock))) (xz w b (.map p clock)) (λc hc=>by cases hc;exact⟨_,hH,rfl⟩) (λr c k1 k2=>by cases k1;cases k2;exact .inr ⟨_,hH,rfl⟩) (λmv r k1=>by
    cases k1;exact⟨b,p,rfl,tb _ hb,Y,Z,s.1,λk e c he hc=>mv _ _ (s.2 k e c he hc)⟩)
   refine⟨.value (.tuple #[]), .tuple #[], .tup [],_,_,?_, .inl rfl,hm, .tup [] [] rfl (λk x c h=>by simp),hK⟩;simp_all [execOp,resolve,invoke,builtin]
  rcases L with⟨rfl,hne⟩|⟨j,e,rfl,hj,hke⟩
  ·refine wK d es _ (λty=>?_) J rfl l (hno λhp v' hmem=>?_)
   ·simp[Builtin.delete_,run_underlying ht,getObj,Sem.run,hb,W,hr,C]
   ·let ⟨i,hi⟩:=qBA.1 hmem
    have hlt:i<d.size:=by rw[l.1];grind
    have hR:=l.2 i d[i] _ (by simp) hi;exact hne d[i] (by simp) (Sf hp hR.ent.1 hk)
  ·have hj':d[j]? =some e:=by simpa using hj
   have hjl:j<d.size:=(qBn.1 hj').1
   let ⟨c,hc,hR⟩:=By l hj'
   obtain⟨k',v',rfl,_⟩:=GO (qBi.1 A c (qBf hc));have hl:(d.eraseIdxIfInBounds j).toList=d.toList.eraseIdx j:=by simp[Array.eraseIdxIfInBounds,hjl]
   refine wK (d.eraseIdxIfInBounds j) (es.eraseIdx j) ((d.toList.map (·.born)).eraseIdx j) (λty=>?_) ⟨λe he=>?_,?_⟩ ?_ ⟨?_,λi e2 c2 he u=>?_⟩ (hup j k' v' hc ⟨tp,aW E.O tp H w,w,a.eval k,hk,by rw[<-hke];exact hR.ent.1⟩)
   ·simp[Builtin.delete_,run_underlying ht,getObj,Sem.run,hb,W,hr,C]
   ·rw[hl]at he;exact J.1 e (List.mem_of_mem_eraseIdx he)
   ·rw[hl,IJ];exact J.2.sublist (List.eraseIdx_sublist _ _)
   ·rw[hl,IJ]
   ·rw[<-qB5,hl,List.length_eraseIdx,List.length_eraseIdx,qB5,l.1]
   ·rw[<-qBD,hl,List.getElem?_eraseIdx]at he;rw[List.getElem?_eraseIdx]at u;split at he
    ·rename_i M;rw[if_pos M]at u;exact l.2 i e2 c2 (by simpa using he) u
    ·rename_i M;rw[if_neg M]at u;exact l.2 (i+1) e2 c2 (by simpa using he) u
 grind
end
end Go.Gv
