/- S8 -/
import Derived.ChangeKeysEq
import Derived.Maps.RangeRun
import Derived.MapKept
import Derived.Test.YtfpmgnnippjblaaGreatDoorGc04
set_option linter.all false
namespace Go.Gv
def qwU(w:World):KK->Value->Prop
 | .int k,x=>∃n,x= .int k n
 | .str,x=>∃s,x= .string s
 | .bool,x=>∃b,x= .bool b
 | .ptr,x=>x= .pointer none\/ ∃b off,x= .pointer (some ⟨b,off,none⟩)/\PlainB w b
def KVl(w:World):List KK->List Value->Prop
 | [], []=>True
 |k::ks,x::xs=>qwU w k x/\KVl w ks xs
 | _,_=>False
def Na(ka:Bool)(xs:List Value):Value:=if ka then .agg xs.toArray else xs.headD undef
theorem KVl.length{w:World} :∀{ks:List KK} {xs:List Value},KVl w ks xs->xs.length=ks.length
 | [], [],_=>rfl
 | _::ks,_::xs,h=>by simp[KVl.length h.2]
 | [],_::_,h=>h.elim
 | _::_, [],h=>h.elim
def KVl.split{w:World} :∀{d a:List KK} {xs:List Value},KVl w (d++a) xs->∃b c,xs=b++c/\KVl w d b/\KVl w a c
 | [],a,xs,h=>⟨[],xs,rfl,trivial,h⟩
 | k::d,a,x::xs,h=>by
   obtain⟨b,c,rfl,h1,h2⟩:=KVl.split h.2;exact⟨x::b,c,rfl,⟨h.1,h1⟩,h2⟩
 | _::_,_, [],h=>h.elim
section
variable {P:Program}{w:World}
def Sy{t:TypeId}{n:Nat}(h:cx P t=some n):∃i,P.info? t=some i/\P.cellsOf t=n:=by
 unfold cx at h;cases a:P.info? t with
 |none=>grind
 | some i=>
   rw[a]at h;simp at h;exact⟨i,rfl,by grind [Program.cellsOf]⟩
def zy{n:Nat}{t:TypeId}{ks:List KK}(h:Nc P n t=some ks):∃ka,gS P t=some ka/\(ka=false->∃k,ks=[k]):=by
 cases n with
 |zero=>cases h
 | succ n=>
   unfold Nc at h;unfold gS;split at h
   ·rename_i k a;rw[a];grind
   ·rename_i a;rw[a];grind
   ·rename_i a;rw[a];grind
   ·rename_i e a;rw[a];grind
   simp_all;simp_all;grind
theorem uD{e:TypeId}{ka:Bool}(a:gS P e=some ka){pre mid post:List Value}(hs:cx P e=some mid.length)(h1:ka=false->mid.length=1):
 (part e (pre++ (mid++post)).toArray pre.length).run P w= .ok (Na ka mid) w:=by
 cases ka with
 | true=>
   simp_all [part,Na,uE,aZ]
 | false=>
   obtain⟨x,rfl⟩:=qHh.1 (h1 rfl);have b:(pre++ ([x] ++post))[pre.length]? =some x:=by simp
   rw[OV a b];rfl
theorem Vh{b c o p:Nat}(h1:PlainB w b)(h2:PlainB w c):(sameAddr ⟨b,o,none⟩ ⟨c,p,none⟩).run P w= .ok ((⟨b,o,none⟩:Addr)==⟨c,p,none⟩) w:=by
 obtain⟨xs,el,h1⟩:=h1;obtain⟨l,j,h2⟩:=h2;have fr:∀(b o:Nat) (xs:Array Value) (el:Nat),w.heap[b]? =some (.cells xs el (0,0))->w.frozen? ⟨b,o,none⟩=false:=λb o xs el h=>by
  simp[World.frozen?,h]
 have d:∀(b:Nat) (xs:Array Value) (el:Nat),w.heap[b]? =some (.cells xs el (0,0))->w.shape? b=some (el,xs.size):=λb xs el h=>by
  simp[World.shape?,h]
 by_cases k:b=c;simp_all [sameAddr]
 ·have a:((⟨b,o,none⟩:Addr)==⟨c,p,none⟩)=false:=by
   simp
  rw[a];have hb:(b==c)=false:=by grind
  simp[sameAddr,hb,frozen,shape,Sem.run,fr _ _ _ _ h1,fr _ _ _ _ h2,noView,viewAt,d _ _ _ h1,d _ _ _ h2,mayBeOne,stringish]
def qsP(P:Program)(w:World)(dd:Nat)(e:TypeId)(ka:Bool)(ks:List KK):Prop:=
 ∀xs a,KVl w ks xs->KVl w ks a->∃r:Bool,(Op.equalIn dd e (Na ka xs) (Na ka a)).run P w= .ok r w/\(r=true↔xs=a)
theorem TD{dd:Nat}{kf:TypeId->Option (List KK)}(hk:∀t ks,kf t=some ks->∃ka,gS P t=some ka/\(ka=false->ks.length=1)/\qsP P w dd t ka ks):
 ∀ (fs:List Field) (off:Nat) (ks:List KK),Ef P kf fs off=some ks->∀pre xs a p:List Value,pre.length=off->a.length=off->KVl w ks xs->KVl w ks p->
  ∃r:Bool,(Op.eqFields dd (pre++xs).toArray (a++p).toArray fs).run P w= .ok r w/\(r=true↔xs=p)
 | [],off,ks,h,pre,xs,a,p,_,_,x,y=>by
   cases h;have h1:=qGW.1 x.length;have h2:=qGW.1 y.length;simp_all [Op.eqFields]
 | f::fs,off,ks,h,pre,xs,a,p,hp,J,x,y=>by
   unfold Ef at h;simp only[qF5,qF3]at h;obtain⟨K,A,h⟩:=h;split at h
   ·rename_i b;simp only[qF3,qGh,qF9,decide_eq_true_eq]at h b;obtain⟨l,hl,rfl⟩:=h;obtain⟨⟨I,hn⟩,L⟩:=b;obtain⟨j,s,rfl,c,C⟩:=x.split;obtain⟨k,u,rfl,d,E⟩:=y.split;obtain⟨ka,U,h1,F⟩:=hk _ _ A;have M:(part f.type (pre++ (j++s)).toArray f.offset).run P w= .ok (Na ka j) w:=by
     grind [uD,c.length]
    have N:(part f.type (a++ (k++u)).toArray f.offset).run P w= .ok (Na ka k) w:=by
     grind [uD,d.length]
    obtain⟨r,O,W⟩:=F j k c d;obtain⟨r',Q,S⟩:=TD hk fs (off+K.length) l hl (pre++j) s (a++k) u (by grind [c.length]) (by grind [d.length]) C E;rw[qG6,qG6]at Q;have q:j++s=k++u↔j=k/\s=u:=⟨λh=>List.append_inj h (by rw[c.length,d.length]),λ⟨h1,h2⟩=>by grind⟩
    simp only[Op.eqFields,hn,ne_eq,not_false_eq_true,if_true,qGs,M,N,O,qGj,q];cases r;simp_all;grind
   grind
theorem qaD{dd:Nat}{e:TypeId}{ka:Bool}{ks:List KK}(C:gS P e=some ka)(hs:cx P e=some ks.length)(h1:ka=false->ks.length=1)(k:qsP P w dd e ka ks):
 ∀ (m s:Nat) (pre xs a l:List Value),pre.length=s*ks.length->a.length=s*ks.length->KVl w (List.replicate m ks).flatten xs->KVl w (List.replicate m ks).flatten l->
  ∃r:Bool,(Op.eqItems dd e ks.length (pre++xs).toArray (a++l).toArray (List.range' s m)).run P w= .ok r w/\(r=true↔xs=l)
 | 0,s,pre,xs,a,l,_,_,q,t=>by
   have h1:=qGW.1 (KVl.length (ks:=[]) (by simpa using q));have h2:=qGW.1 (KVl.length (ks:=[]) (by simpa using t));simp_all [Op.eqItems]
 | m+1,s,pre,xs,a,l,hp,E,q,t=>by
   rw[qIf,qIm]at q t;obtain⟨d,u,rfl,b,y⟩:=q.split;obtain⟨j,x,rfl,c,A⟩:=t.split;have F:(part e (pre++ (d++u)).toArray (s*ks.length)).run P w= .ok (Na ka d) w:=by
    grind [uD,b.length]
   have I:(part e (a++ (j++x)).toArray (s*ks.length)).run P w= .ok (Na ka j) w:=by
    grind [uD,c.length]
   obtain⟨r,J,M⟩:=k d j b c;obtain⟨r',K,L⟩:=qaD C hs h1 k m (s+1) (pre++d) u (a++j) x (by grind [b.length]) (by grind [c.length]) y A;rw[qG6,qG6]at K;have p:d++u=j++x↔d=j/\u=x:=⟨λh=>List.append_inj h (by rw[b.length,c.length]),λ⟨h1,h2⟩=>by grind⟩
   rw[qHU];simp only[Op.eqItems,qGs,F,I,J,qGj,p];cases r;simp_all;grind
def NE{ka:Bool}{ks:List KK}(h:ka=false->∃k,ks=[k]):ka=false->ks.length=1:=λe=>by
 grind
theorem KVl.one{k:KK}{xs:List Value}(h:KVl w [k] xs):∃x,xs=[x]/\qwU w k x:=by
 match xs,h with
 | [x],h=>exact⟨x,rfl,h.1⟩
 | _::_::_,h=>exact h.2.elim
theorem qCD:∀(n:Nat) (t:TypeId) (ks:List KK) (ka:Bool),Nc P n t=some ks->gS P t=some ka->∀d,qsP P w (d+n) t ka ks
 | 0,t,ks,ka,h,_,_=>by cases h
 | n+1,t,ks,ka,h,j,d=>by
   intro xs L A C;have Q:d+ (n+1)=(d+n) +1:=rfl;rw[Q];unfold Nc at h;unfold gS at j;split at h
   ·rename_i k a;rw[a]at j;cases h;cases j;obtain⟨x,rfl,m,rfl⟩:=A.one;obtain⟨y,rfl,q,rfl⟩:=C.one;exact⟨m==q,run_equalIn_int w _ t _ _ _ _ a,by simp⟩
   ·rename_i a;rw[a]at j;cases h;cases j;obtain⟨x,rfl,m,rfl⟩:=A.one;obtain⟨y,rfl,q,rfl⟩:=C.one;exact⟨m.toList==q.toList,run_equalIn_string w _ t _ _ a,by simp[qHH,qIn]⟩
   ·rename_i a;rw[a]at j;cases h;cases j;obtain⟨x,rfl,m,rfl⟩:=A.one;obtain⟨y,rfl,q,rfl⟩:=C.one;exact⟨m==q,run_equalIn_bool w _ t _ _ a,by simp⟩
   ·rename_i e a;rw[a]at j;split at h
    ·rename_i m hm;cases h;cases j;obtain⟨x,rfl,A⟩:=A.one;obtain⟨y,rfl,C⟩:=C.one;simp only[Na,qGQ,if_false,List.headD_cons];rcases A with rfl|⟨b,o,rfl,hb⟩ <;>rcases C with rfl|⟨c,p,rfl,hc⟩
     ·exact⟨true,by simp[Op.equalIn,run_underlying a],by simp⟩
     ·exact⟨false,by simp[Op.equalIn,run_underlying a],by simp⟩
     ·exact⟨false,by simp[Op.equalIn,run_underlying a],by simp⟩
     ·refine⟨(⟨b,o,none⟩:Addr)==⟨c,p,none⟩,?_,by simp⟩;simp only[Op.equalIn,qGs,run_underlying a,qGj,aZ hm,ne_eq,Nat.add_eq_zero_iff,Nat.succ_ne_zero,and_false,not_false_eq_true,if_true];grind [Vh]
    grind
   ·rename_i fs a;rw[a]at j;split at h;grind
    ·rename_i S;cases j;have M:P.fieldsOf t=fs:=by grind [Program.fieldsOf]
     have l:=run_equalIn_struct (P:=P) w (d+n) t xs.toArray L.toArray (by grind) (by grind);rw[M]at l;obtain⟨r,U,F⟩:=TD (P:=P) (w:=w) (dd:=d+n) (kf:=Nc P n) (λt' N I=>by
      obtain⟨u,s,E⟩:=zy I;exact⟨u,s,NE E,qCD n t' N u I s d⟩) fs.toList 0 ks h [] xs [] L rfl rfl A C
     simp_all [Na]
   ·rename_i len e a;rw[a]at j;cases j;simp only[qF5,qF3]at h;obtain⟨W,J,h⟩:=h;split at h
    ·rename_i K;cases h;obtain⟨i,hi,O⟩:=Sy K;obtain⟨u,s,E⟩:=zy J;have l:=run_equalIn_array (P:=P) w (d+n) xs.toArray L.toArray a hi;rw[O,qHZ]at l;obtain⟨r,U,F⟩:=qaD s K (NE E) (qCD n e W u J s d) len 0 [] xs [] L (by simp) (by simp) A C;simp_all [Na]
    grind
   grind
def qF1(P:Program)(w:World)(a:Bool)(dd:Nat)(e:TypeId)(ka:Bool)(ks:List KK):Prop:=∀xs,KVl w ks xs->(Instr.checkKey a dd e (Na ka xs)).run P w= .ok () w
theorem qwk(em:Bool):∀(n:Nat) (t:TypeId) (ks:List KK) (ka:Bool),Nc P n t=some ks->gS P t=some ka->∀d,qF1 P w em (d+n) t ka ks
 | 0,t,ks,ka,h,_,_=>by cases h
 | n+1,t,ks,ka,h,ha,d=>by
   intro xs hx;have hd:d+ (n+1)=(d+n) +1:=rfl;rw[hd,Instr.checkKey];unfold Nc at h;unfold gS at ha;split at h
   ·rename_i k hu;rw[hu]at ha;cases h;simp_all [run_underlying]
   ·rename_i hu;rw[hu]at ha;cases h;simp_all [run_underlying]
   ·rename_i hu;rw[hu]at ha;cases h;simp_all [run_underlying]
   ·rename_i e hu;rw[hu]at ha;split at h
    ·cases h;cases ha;obtain⟨x,rfl,hx⟩:=hx.one;rcases hx with rfl|⟨b,o,rfl,hb⟩ <;>simp[Na,run_underlying hu]
    ·cases h
   ·rename_i fs hu;rw[hu]at ha;split at h
    ·cases h
    ·cases ha;simp only[Na,if_true,qGs,run_underlying hu,qGj];rw[<-Array.forIn_toList];have key:∀(l:List Field) (off:Nat) (ks:List KK),Ef P (Nc P n) l off=some ks->∀pre xs:List Value,pre.length=off->KVl w ks xs->
      (forIn l PUnit.unit fun f r => (do if f.name ≠ "_" then (do Instr.checkKey em (d + n) f.type (← part f.type (pre ++ xs).toArray f.offset); pure (ForInStep.yield PUnit.unit)) else pure (ForInStep.yield PUnit.unit) : Sem (ForInStep PUnit))).run P w = .ok PUnit.unit w := by
      intro l
      induction l with
      |nil=>intro off ks _ pre xs _ _;simp
      | cons f l ih=>
        intro off ks h pre xs hp hx;unfold Ef at h;simp only[qF5,qF3]at h;obtain⟨k1,hk1,h⟩:=h;split at h
        ·rename_i hcond;simp only[qF3,qGh,qF9,decide_eq_true_eq]at h hcond;obtain⟨l',hl,rfl⟩:=h;obtain⟨⟨hoff,hn⟩,hsz⟩:=hcond;obtain⟨x1,x2,rfl,hx1,hx2⟩:=hx.split;obtain⟨ka',ha',h1'⟩:=zy hk1;have p1:(part f.type (pre++ (x1++x2)).toArray f.offset).run P w= .ok (Na ka' x1) w:=by
          rw[hoff,<-hp];exact uD ha' (by rw[hx1.length];exact hsz) (λe=>by rw[hx1.length];exact NE h1' e)
         have p2:=qwk em n f.type k1 ka' hk1 ha' d x1 hx1;have p3:=ih (off+k1.length) l' hl (pre++x1) x2 (by simp[hp,hx1.length]) hx2;rw[qG6]at p3;simp only[List.forIn_cons,qGs,hn,ne_eq,not_false_eq_true,if_true,qGj,p1,p2,qGy];exact p3
        ·cases h
     have k0:=key fs.toList 0 ks h [] xs rfl hx;rw[qG1]at k0;rw[k0];rfl
   ·rename_i len e hu;rw[hu]at ha;cases ha;simp only[qF5,qF3]at h;obtain⟨k1,hk1,h⟩:=h;split at h
    ·rename_i hsz;cases h;obtain⟨i,hi,hco⟩:=Sy hsz;obtain⟨ka',ha',h1'⟩:=zy hk1;simp only[Na,if_true,qGs,run_underlying hu,qGj];simp only[Std.Legacy.Range.forIn_eq_forIn_range',Std.Legacy.Range.size,Nat.sub_zero,Nat.add_one_sub_one,Nat.div_one];have key:∀(m s:Nat) (pre xs:List Value),pre.length=s*k1.length->KVl w (List.replicate m k1).flatten xs->
      (forIn (List.range' s m) PUnit.unit λi r=>(do Instr.checkKey em (d+n) e (<-part e (pre++xs).toArray (i* (<-sizeOf e)));pure (ForInStep.yield PUnit.unit):Sem (ForInStep PUnit))).run P w= .ok PUnit.unit w:=by
      intro m
      induction m with
      |zero=>intro s pre xs _ _;simp
      | succ m ih=>
        intro s pre xs hp hx;rw[qIf,qIm]at hx;obtain⟨x1,x2,rfl,hx1,hx2⟩:=hx.split;have p1:(part e (pre++ (x1++x2)).toArray (s*k1.length)).run P w= .ok (Na ka' x1) w:=by
         rw[<-hp];exact uD ha' (by rw[hx1.length];exact hsz) (λe=>by rw[hx1.length];exact NE h1' e)
        have p2:=qwk em n e k1 ka' hk1 ha' d x1 hx1;have p3:=ih (s+1) (pre++x1) x2 (by simp[hp,hx1.length,qHc]) hx2;rw[qG6]at p3;rw[qHU];simp only[List.forIn_cons,qGs,aZ hsz,qGj,p1,p2,qGy];exact p3
     have k0:=key len 0 [] xs (by simp) hx;rw[qG1]at k0;rw[k0];rfl
    ·cases h
   grind
end
open Go.ChangeMaps (setBlock)
section
variable {P:Program}{w:World}
def qnW{ka:Bool}{ks:List KK}{xs a:List Value}(h1:ka=false->ks.length=1)(b:KVl w ks xs)(c:KVl w ks a)(h:Na ka xs=Na ka a):xs=a:=by
 cases ka with
 |true=>grind [Na]
 | false=>
   obtain⟨k,rfl⟩:=qHh.1 (h1 rfl);grind [b.one,c.one,Na]
theorem qlJ(a b:ByteArray):(a==b)=true↔a=b:=by
 simp[beq_toListBytes,qHH,qIn]
theorem LO{d:TypeDesc}{x y:Value}{b:Bool}(h:Instr.sameNow d x y=some b):b=true↔x=y:=by
 unfold Instr.sameNow at h;grind [qlJ]
theorem P2{d:TypeDesc}{x:Value} :∀(es:List MapEntry) (i:Nat) (r:Option (Nat×Value)),Instr.findNow d x es i=some r->
 (r=none/\∀e∈es,e.key≠x)\/ ∃j e,r=some (i+j,e.val)/\es[j]? =some e/\e.key=x
 | [],i,r,h=>by
   cases h<;>grind
 | e::es,i,r,h=>by
   unfold Instr.findNow at h;split at h
   ·rename_i hs;cases h;exact .inr ⟨0,e,by simp,rfl,((LO hs).1 rfl).symm⟩
   ·rename_i hs;have a:e.key≠x:=λc=>by grind [LO]
    rcases P2 es (i+1) r h with⟨h1,h2⟩|⟨j,b,h1,h2,h3⟩
    grind
    ·exact .inr ⟨j+1,b,by grind,by grind,h3⟩
   grind
structure KeyT (P:Program) (t:TypeId) (ka:Bool) (ks:List KK):Prop where
 c:Nc P 50 t=some ks
 a:gS P t=some ka
def Eb{t:TypeId}{ka:Bool}{ks:List KK}(h:qke P t=some (ka,ks)):KeyT P t ka ks:=by
 grind [KeyT,qke,Option.bind_eq_some_iff]
theorem KeyT.one{t:TypeId}{ka:Bool}{ks:List KK}(h:KeyT P t ka ks):ka=false->ks.length=1:=by
 obtain⟨b,h1,h2⟩:=zy h.c;have:=h.a.symm.trans h1;grind
def Xy(w:World)(ka:Bool)(ks:List KK)(x:Value):Prop:=∃xs,x=Na ka xs/\KVl w ks xs
theorem P3{t:TypeId}{ka:Bool}{ks:List KK}(l:KeyT P t ka ks){x:Value}(q:Xy w ka ks x):∀(es:List MapEntry) (i:Nat),(∀e∈es,Xy w ka ks e.key)->
 ∃r,(Instr.findAsking t x es i).run P w= .ok r w/\((r=none/\∀e∈es,e.key≠x)\/ ∃j e,r=some (i+j,e.val)/\es[j]? =some e/\e.key=x)
 | [],i,_=>⟨none,by rfl, .inl ⟨rfl,λe he=>by grind⟩⟩
 | e::es,i,b=>by
   obtain⟨xs,rfl,d⟩:=id q;obtain⟨s,u,h⟩:=b e (by simp);obtain⟨r,y,k⟩:=qCD (P:=P) (w:=w) 50 t ks ka l.c l.a 9950 xs s d h;have p:(Op.equal t (Na ka xs) e.key).run P w= .ok r w:=by rw[u];exact y
   cases r with
   | true=>
     exact⟨some (i,e.val),by simp[Instr.findAsking,p], .inr ⟨0,e,by simp,rfl,by grind⟩⟩
   | false=>
     have A:e.key≠Na ka xs:=λE=>by
      have:=k.2 (qnW l.one d h (by grind));grind
     obtain⟨r,h1,h2⟩:=P3 l q es (i+1) (λe he=>b e (by grind));refine⟨r,by simp_all [Instr.findAsking],?_⟩;rcases h2 with⟨h2,h3⟩|⟨j,C,h2,h3,h4⟩
     grind
     ·exact .inr ⟨j+1,C,by grind,by grind,h4⟩
def WF{t:TypeId}{ka:Bool}{ks:List KK}(b:KeyT P t ka ks){x:Value}(h:Xy w ka ks x)(es:List MapEntry)(a:∀e∈es,Xy w ka ks e.key):
 ∃r,(Instr.findKey t x es).run P w= .ok r w/\((r=none/\∀e∈es,e.key≠x)\/ ∃j e,r=some (j,e.val)/\es[j]? =some e/\e.key=x):=by
 obtain⟨k,h1,h2⟩:=zy b.c;have l:∃d,P.underlying t=some d:=by
  grind [gS]
 obtain⟨d,p⟩:=l;cases hn:Instr.findNow d x es 0 with
 | some r=>
   refine⟨r,by simp_all [Instr.findKey,run_underlying],?_⟩;grind [P2]
 | none=>
   obtain⟨r,h3,h4⟩:=P3 b h es 0 a;simp_all [Instr.findKey,run_underlying]
theorem qf6{ka:Bool}{ks:List KK}(h1:ka=false->ks.length=1){x:Value}(a:Xy w ka ks x):Instr.sameBits 10000 x x=true:=by
 have cell:∀(n:Nat) (k:KK) (x:Value),qwU w k x->Instr.sameBits n x x=true:=λn k x h=>by
  cases k<;>grind [qwU,Instr.sameBits,qlJ]
 obtain⟨xs,rfl,b⟩:=a;cases ka with
 | false=>
   obtain⟨k,rfl⟩:=qHh.1 (h1 rfl);obtain⟨x,rfl,a⟩:=b.one;exact cell _ _ _ a
 | true=>
   simp only[Na,if_true,Instr.sameBits,beq_self_eq_true,qHs];have all:∀(ks:List KK) (xs:List Value),KVl w ks xs->(xs.zip xs).all (λx=>Instr.sameBits 9999 x.1 x.2)=true:=by
    intro ks
    induction ks with
    |nil=>intro xs h;cases xs with|nil=>rfl|cons=>exact h.elim
    | cons k ks c=>
      intro xs h;cases xs with
      |nil=>rfl
      |cons x xs=>simp[cell _ _ _ h.1];grind [KVl]
   grind
def qil{ka:Bool}{ks:List KK}(h1:ka=false->ks.length=1){x:Value}(a:Xy w ka ks x):(Instr.keyThatStays x x).run P w= .ok x w:=by
 simp[Instr.keyThatStays,qf6 h1 a]
variable {tp I:Nat->Prop}
def qkL{k:KK}{x:Value}{d:D}(a:qot k d=true)(h:R tp I w x d):qwU w k x:=by
 unfold qot at a;split at a
 ·rename_i k c n;have hk:k=c:=by grind
  have:=h.inv_v;subst hk;exact⟨_,this⟩
 ·exact⟨_,h.inv_v⟩
 ·exact⟨_,h.inv_v⟩
 ·rename_i cs off;cases h with
  |cptr b base _ _ f hI hz _ _ _=>exact .inr ⟨b,base+off,rfl,hz (by grind)⟩
 ·exact .inl h.inv_v
 grind
def qkK:∀{ks:List KK} {ds:List D} {xs:List Value},qos ks ds=true->xs.length=ds.length->(∀(k:Nat) (x:Value) (c:D),xs[k]? =some x->ds[k]? =some c->R tp I w x c)->KVl w ks xs
 | [], [],xs,_,hl,_=>by
   have:=qGW.1 hl;subst this;trivial
 | k::ks,d::ds,x::xs,h,hl,a=>by
   simp only[qos,qF9]at h;exact⟨qkL h.1 (a 0 x d rfl rfl),qkK h.2 (by grind) λk y c h1 h2=>a (k+1) y c h1 h2⟩
 | _::_,_::_, [],_,hl,_=>by grind
 | [],_::_,_,h,_,_=>by cases h
 | _::_, [],_,h,_,_=>by cases h
def WE{ka:Bool}{ks:List KK}{x:Value}{d:D}(a:qax ka ks d=true)(h:R tp I w x d):Xy w ka ks x:=by
 unfold qax at a;cases ka with
 | true=>
   simp only[if_true]at a;cases d<;>simp only[wy]at a<;>try (cases a;done)
   obtain⟨xs,rfl,hl,hc⟩:=h.inv_agg;exact⟨xs,rfl,qkK a hl λk y c h1 h2=>(hc k y c h1 h2).2⟩
 | false=>
   simp only[qGQ,if_false]at a;split at a
   ·exact⟨[x],rfl,qkL a h,trivial⟩
   grind
def Vt{x y:Value}{d:D}(hp:Fi d=true)(h:R tp I w x d)(j:R tp I w y d):x=y:=by
 have one:∀(c:D),qtj c=true->∀{x y:Value},R tp I w x c->R tp I w y c->x=y:=λc hc x y h1 h2=>by
  cases c<;>first|(cases hc;done)|exact h1.inv_v.trans h2.inv_v.symm
 by_cases a:∃cs,d= .agg cs
 ·obtain⟨cs,rfl⟩:=a;obtain⟨xs,rfl,hl,hc⟩:=h.inv_agg;obtain⟨k,rfl,l,b⟩:=j.inv_agg;have:xs=k:=by
   refine List.ext_getElem (by omega) λi h1 h2=>?_
   have hi:i<cs.length:=by omega
   have p:qtj cs[i]=true:=qGa.1 hp _ (by simp[D.cells]);exact one _ p (hc i _ _ (qF6 h1) (qF6 hi)).2 (b i _ _ (qF6 h2) (qF6 hi)).2
  grind
 ·have q:d.cells=[d]:=by cases d<;>first|rfl|grind
  grind [Fi]
def R.ent{a b:Value}{k v:D}(h:R tp I w (.tuple #[a,b]) (.tup [k,v])):R tp I w a k/\R tp I w b v:=by
 generalize d:Value.tuple #[a,b]=q at h;cases h with
 | tup xs ds hl h=>
   have c:xs=[a,b]:=by
    grind
   subst c;exact⟨h 0 a k rfl rfl,h 1 b v rfl rfl⟩
def IZ{ka:Bool}{ks:List KK}{d:D}(h:qdd ka ks d=true):∃k v,d= .tup [k,v]/\qax ka ks k=true:=by
 unfold qdd at h;grind
def R.mk_ent{a b:Value}{k v:D}(h1:R tp I w a k)(h2:R tp I w b v):R tp I w (.tuple #[a,b]) (.tup [k,v]):=
 .tup [a,b] [k,v] rfl λi x c d hc=>by
  grind
end
section
variable {P:Program}{o:Oper}{a:Act}{E:BU}{tp I:Nat->Prop}{H:ab}{w:World}{σ:Sg}
def qeJ{q:Value}{d:D}{Hr:ab}{K:List D->Prop}(l:R tp I w q d)(p:∀i r,Hr i=some r->H i=some r)(k:∀i r,H i=some r->ResOk (R tp I w) w r)(j:IM d Hr K):
 ∃es,K es/\((q= .map none/\es=[])\/ ∃b c clock,q= .map (some b)/\w.heap[b]? =some (.map c clock)/\fI c clock/\BB (R tp I w) c es):=by
 unfold IM at j;split at j
 ·rename_i es;cases l with
  |nomp=>grind
  |mp b c clock _ hI hh hl hb h=>exact⟨es,j, .inr ⟨b,c,clock,rfl,hh,hb,hl,h⟩⟩
 ·exact⟨[],j, .inl ⟨l.inv_v,rfl⟩⟩
 ·split at j
  ·rename_i t es s
   let ⟨rfl,hk⟩:=j
   obtain⟨b,c,clock,rfl,h1,h2,h3⟩:=k _ _ (p _ _ s);cases l<;>grind
  grind
 grind
def Dw{b:Array MapEntry}{es:List D}(h:BB (R tp I w) b es){j:Nat}{e:MapEntry}(he:b[j]? =some e):∃c,es[j]? =some c/\R tp I w (.tuple #[e.key,e.val]) c:=by
 have d:j<es.length:=by grind [BB]
 exact⟨es[j],qF6 d,h.2 j e _ he (qF6 d)⟩
def WN{b:Array MapEntry}{es:List D}{ka:Bool}{ks:List KK}(h:BB (R tp I w) b es)(l:es.all (qdd ka ks)=true):∀e∈b.toList,Xy w ka ks e.key:=by
 intro e he
 let ⟨j,q⟩:=qGp.1 he
 have d:b[j]? =some e:=by grind
 let ⟨c,hc,p⟩:=Dw h d
 obtain⟨k,v,rfl,hk⟩:=IZ (qGa.1 l c (qF7 hc));exact WE hk p.ent.1
theorem qfF{t:TypeId}{z:List Value}{agg:Bool}(hz:cv P t=some z)(b:Nt P t agg=true):∃d,(zeroValue t).run P w= .ok d w/\R tp I w d (XA agg z):=by
 let ⟨i,d,hi,q,h,A,j,r⟩:=eB hz
 refine⟨d,by simp_all [zeroValue,typeInfo],?_⟩;have l:=lD (tp:=tp) (I:=I) (w:=w) r j;simp[Nt,hi,q]at b;split at b
 ·rename_i cs p;cases p;subst b;simp[XA];rw[<-h];have:(Value.agg cs)= .agg cs.toList.toArray:=by simp
  have s:(Value.agg cs).cells.toList=cs.toList:=rfl;rw[s];rw[<-h]at l j;have h2:=R.agg (tp:=tp) (I:=I) (w:=w) cs.toList (cs.toList.map rk) (by simp) (λx y=>qGa.1 j x y) (λk x c h1 h2=>(l k x c h1 h2).2);omega
 ·rename_i x C y;simp[qH7]at b
  let ⟨rfl,h1⟩:=b
  have u:d.cells= #[d]:=by cases d<;>first|rfl|grind
  rw[u]at h;subst h;have:=l 0 d (rk d) rfl rfl;grind [XA]
 grind
theorem qg0{t u Q:TypeId}{x k:Operand}{ok agg ka:Bool}{ks:List KK}{z:List Value}{K:D->Prop}(ho:o.op= .lookup t x k ok)(ht:P.underlying t=some (.map u Q))(q:KeyT P u ka ks)(hz:cv P Q=some z)(S:Nt P Q agg=true)
 (hx:R tp I w (a.eval x) (ev σ x)) (hk:R tp I w (a.eval k) (ev σ k)) {Hr:ab} (U:∀i r,Hr i=some r->H i=some r) (y:∀i r,H i=some r->ResOk (R tp I w) w r)
 (hv:ak (.m (.look ok agg ka ks z) [x,k]) σ Hr K):Good P o a tp I w K:=by
 simp[ak,qHj]at hv
 let ⟨es,⟨p,W,l,Y⟩,hm⟩:=qeJ hx U y hv
 have A:=WE W hk
 let ⟨zv,C,F⟩:=qfF (P:=P) (w:=w) (tp:=tp) (I:=I) hz S
 have J:∀Z,(Instr.checkKey Z 10000 u (a.eval k)).run P w= .ok () w:=λZ=>by
  let ⟨xs,h1,h2⟩:=A
  rw[h1];exact qwk Z 50 u ks ka q.c q.a 9950 xs h2
 have main:∀(d:Array MapEntry),(∀e∈d.toList,Xy w ka ks e.key)->(∀(j:Nat) (e:MapEntry),d[j]? =some e->∃c,es[j]? =some c/\R tp I w (.tuple #[e.key,e.val]) c)->
  (∀c∈es,∃e∈d.toList,R tp I w (.tuple #[e.key,e.val]) c)->
  (∀r:Option (Nat×Value),(Instr.findKey u (a.eval k) d.toList).run P w= .ok r w->(execOp a.eval o).run P w= .ok (.value (match r with|some (_,v)=>if ok then .tuple #[v, .bool true]else v|none=>if ok then .tuple #[zv, .bool false]else zv)) w)->Good P o a tp I w K:=by
  intro d h1 h2 h3 L
  let ⟨r,M,s⟩:=WF (P:=P) q A d.toList h1
  have hex:=L r M;rcases s with⟨rfl,hne⟩|⟨j,e,rfl,hj,hke⟩
  ·refine⟨_,qyy ok (XA agg z) false,hex,?_,Y λhp v N=>?_⟩
   ·cases ok with
    |true=>exact R.mk_ent F (.bool _)
    |false=>exact F
   ·let ⟨e,he,O⟩:=h3 _ N
    exact hne e he (Vt hp O.ent.1 hk)
  ·let ⟨c,hc,O⟩:=h2 j e (by grind)
   obtain⟨k',v',rfl,_⟩:=IZ (qGa.1 p c (qF7 hc));refine⟨_,qyy ok v' true,hex,?_,l k' v' (qF7 hc) ⟨tp,I,w,a.eval k,hk,by rw[<-hke];exact O.ent.1⟩⟩;cases ok with
   |true=>exact R.mk_ent O.ent.2 (.bool _)
   |false=>exact O.ent.2
 rcases hm with⟨hq,rfl⟩|⟨b,d,clock,hq,hb,hbo,h⟩
 ·refine main #[] (λe he=>by simp at he) (λj e he=>by simp at he) (λc hc=>by simp at hc) λr M=>?_
  have hr':(Instr.findKey u (a.eval k) []).run P w= .ok r w:=M;simp[execOp,ho,hq,Instr.lookup,run_underlying ht,J,hr'];rcases r with _|⟨i,v⟩ <;>cases ok<;>simp[C]
 ·refine main d (WN h p) (λj e he=>Dw h he) (λc hc=>?_) λr M=>?_
  ·let ⟨j,hj⟩:=qGp.1 hc
   have hlt:j<d.size:=by rw[h.1];exact(qF4.1 hj).1
   exact⟨d[j],by simp,h.2 j _ c (by simp) hj⟩
  ·simp[execOp,ho,hq,Instr.lookup,run_underlying ht,J,M,getObj,Sem.run,hb];rcases r with _|⟨i,v⟩ <;>cases ok<;>simp[C]
theorem qgY{t y A:TypeId}{c:Call}{x:Operand}{K:D->Prop}(ho:o.op= .call c)(hc:c.callee= .builtin .len)(k:c.argTypes.toList=[t])(d:c.args.toList=[x])(q:P.underlying t=some (.map y A))
 (C:R tp I w (a.eval x) (ev σ x)) {Hr:ab} (l:∀i r,Hr i=some r->H i=some r) (j:∀i r,H i=some r->ResOk (R tp I w) w r)
 (s:ak (.m .len [x]) σ Hr K):Good P o a tp I w K:=by
 let ⟨cl,⟨args⟩,⟨F⟩⟩:=c
 subst k;subst d;subst hc;simp[ak,qHj]at s
 let ⟨es,hk,hm⟩:=qeJ C l j s
 rcases hm with⟨p,rfl⟩|⟨b,u,clock,p,hb,J,h⟩
 ·exact⟨_,_,by simp[execOp,ho,resolve,invoke,builtin,p,Builtin.len_,run_underlying q,goInt], .int _ _,hk⟩
 ·refine⟨.int .i64 es.length,_,?_, .int _ _,hk⟩;rw[<-h.1];simp[execOp,ho,resolve,invoke,builtin,p,Builtin.len_,run_underlying q,goInt,getObj,Sem.run,hb]
theorem qeI{m:Option Nat}{since last:Nat}{seen:Array Nat}{cur ds:List D}(h:R tp I w (PH m since seen last) (.mst cur ds)):
 (m=none/\cur=[]/\ds=[])\/ ∃b es clock ce,m=some b/\I b/\w.heap[b]? =some (.map es clock)/\fI es clock/\(∀e∈es.toList,e.born<since)/\since<=last/\since<=clock/\(jq es seen).length=ds.length/\
   (cur=[]\/(cur.length=1/\seen.back? =some ce.born/\ce∈es.toList/\last=clock))/\(∀c,cur=[c]->R tp I w (.tuple #[ce.key,ce.val]) c)/\∀(k:Nat) (e:MapEntry) (c:D),(jq es seen)[k]? =some e->ds[k]? =some c->R tp I w (.tuple #[e.key,e.val]) c:=by
 generalize p:PH m since seen last=q at h;have d:∀s j:Array Nat,(s.map λ(n:Nat)=>Value.int .i64 n)=(j.map λ(n:Nat)=>Value.int .i64 n)->s=j:=λs j h=>by
  grind [PH,Array.toList_map,List.map_inj_right,Array.toList_inj]
 cases h with
 | nomst s l r=>
   simp[PH]at p;grind
 | mst b es clock s l r ce _ _ hI hh hb hs hsl hl hc hcr h=>
   simp[PH]at p;grind
theorem qc4{x:Operand}{K:D->Prop}(ho:o.op= .entry x)(F:R tp I w (a.eval x) (ev σ x)){Hr:ab}(t:∀i r,Hr i=some r->H i=some r)(k:∀i r,H i=some r->ResOk (R tp I w) w r)
 (d:ak (.m .entry [x]) σ Hr K):Good P o a tp I w K:=by
 simp[ak,Dd,qHj]at d;generalize hq:a.eval x=q at F;split at d<;>try (exact d.elim)
 grind;grind
 ·rename_i ds id b off _ A;simp[and_true]at A;rw[A]at F
  let ⟨rfl,d⟩:=d
  split at d
  ·rename_i b' e left J
   let ⟨rfl,hk⟩:=d
   cases F
   let ⟨m,since,last,seen,S,U⟩:=k _ _ (t _ _ J)
   rcases qeI U with⟨_,h,_⟩|⟨W,es,clock,ce,rfl,hI,hb,u,hs,hsl,Y,hl,hc,hcr,O⟩
   grind
   ·rcases hc with h|⟨_,L,p,rfl⟩;grind
    ·have Z:es.find? (·.born==ce.born)=some ce:=by rw[<-Array.find?_toList];exact find_born ce es.toList u.2 p
     refine⟨.tuple #[ce.key,ce.val],e,?_,hcr e rfl,hk⟩;simp_all [execOp,Instr.entry,getObj,Sem.run]
  ·rename_i b' m xm clk seen J
   let ⟨rfl,d⟩:=d
   unfold Fa at d;split at d
   ·rename_i x' es st Q hM
    let ⟨rfl,rfl,d⟩:=d
    split at d
    ·rename_i s hs
     let ⟨C,hK⟩:=d
     cases F;obtain⟨mb,rfl,S⟩:=k _ _ (t _ _ J);obtain⟨W,l,M,hb,u,rfl,y⟩:=k _ _ (t _ _ hM);cases M;obtain⟨ce,p,rfl⟩:=qGd.1 C;have L:seen.toArray.back? =some ce.born:=by grind
     have Z:l.find? (·.born==ce.born)=some ce:=by rw[<-Array.find?_toList];exact find_born ce l.toList u.2 p
     let ⟨j,hj⟩:=qGp.1 p
     have N:l[j]? =some ce:=by grind
     let ⟨c,hc,hR⟩:=Dw y N
     refine⟨.tuple #[ce.key,ce.val],c,?_,hR,hK j c (by grind) hc⟩;simp_all [execOp,Instr.entry,getObj,Sem.run]
    grind
   grind
  grind
 grind
theorem qg4{t el:TypeId}{len sz:Nat}{x i:Operand}{K:D->Prop}(ho:o.op= .indexAddr t x i)(q:P.underlying t=some (.array len el))(hs:cx P el=some sz)
 (r:R tp I w (a.eval x) (ev σ x)) (hi:R tp I w (a.eval i) (ev σ i)) {Hr:ab} (j:ak (.m (.aidx len sz) [x,i]) σ Hr K):Good P o a tp I w K:=by
 simp[ak,qHj]at j;generalize hid:ev σ i=id at hi j;have main:∀(l:IntKind) (k:Int),a.eval i= .int l k->0<=k->k<len->qkP (k.toNat*sz) (ev σ x) K->Good P o a tp I w K:=by
  intro l k hk h0 h1 hm;refine vz (d:=k.toNat*sz) (x:=x) (λb off hb=>?_) r (H:=λ_=>none) hm;simp[execOp,ho,hk,hb,Instr.indexAt,asIntOf,run_underlying q,Instr.sureAddr,h0,h1,aZ hs,lC]
 unfold Dd at j;split at j<;>try (exact j.elim)
 all_goals first
  |(rename_i h _;cases h)
  |skip
 rename_i p c;simp[and_true]at c;obtain⟨rfl,rfl⟩:=c;grind [Good,cx,hi.inv_v]
theorem uH{w:World}{b:Nat}{c:Obj}(o:Obj)(hb:w.heap[b]? =some c):(setBlock w b o).heap[b]? =some o:=by
 grind [setBlock]
def Wt{w:World}{b c:Nat}(o:Obj)(h:c≠b):(setBlock w b o).heap[c]? =w.heap[c]?:=by
 grind [setBlock]
theorem zA(w:World)(b:Nat)(o:Obj):GrB w (setBlock w b o) (some b):=
 ⟨⟨rfl,rfl,rfl,by simp[setBlock],λk _ hk=>Wt o (λe=>hk (by rw[e]))⟩,qGb _⟩
def quA{t ty:Nat}{K:D->ab->Prop}(d:StW E tp H w)(ho:o.op= .makeMap ty none)(h:∀x,K (.own t x) (aj H t (some (.mrow x [])))):de P o a E tp H w K:=by
 refine⟨_, .map (some w.heap.size), .own t (.map (some w.heap.size)),_,w.alloc (.map #[] 0),?_, .inl rfl,pi (r':= .mrow (.map (some w.heap.size)) []) d (λb hb=>by cases hb;rfl) (λm=>?_), .own _ _ rfl,h _⟩
 ·simp[execOp,ho,qGs];rfl
 ·exact⟨w.heap.size, #[],0,rfl,heap_alloc_new _ _,⟨λe he=>by grind,by simp⟩,rfl,λk e c he=>by simp⟩
def qbi{es:Array MapEntry}{clock i:Nat}{k v:Value}(h:fI es clock):fI (es.modify i λe=>{ e with key:=k,val:=v }) clock:=by
 have hm:((es.modify i λe=>{ e with key:=k,val:=v }).toList.map (·.born))=es.toList.map (·.born):=by
  refine qGN λj=>?_
  grind
 refine⟨λe he=>?_,by grind [fI]⟩;have:e.born∈ (es.modify i λe=>{ e with key:=k,val:=v }).toList.map (·.born):=qGd.2 ⟨e,he,rfl⟩;grind [fI]
def qhn{es:Array MapEntry}{clock:Nat}{k v:Value}(h:fI es clock):fI (es.push { key:=k,val:=v,born:=clock }) (clock+1):=by
 refine⟨λe he=>?_,?_⟩
 ·rw[Array.toList_push,qGi,qHk]at he;rcases he with he|rfl;grind [fI];simp
 grind [fI]
theorem qjI{ty kt et:TypeId}{x k v:Operand}{ka:Bool}{ks:List KK}{K:D->ab->Prop}(hst:StW E tp H w)(ho:o.op= .mapUpdate ty x k v\/o.op= .insert ty x k v)(ht:P.underlying ty=some (.map kt et))(t:KeyT P kt ka ks)
 (hx:R tp (be E.O tp H w) w (a.eval x) (ev σ x)) (hk:R tp (be E.O tp H w) w (a.eval k) (ev σ k)) (hvv:R tp (be E.O tp H w) w (a.eval v) (ev σ v))
 (Z:bj (.m (.upd ka ks) [x,k,v]) o.dst σ H K):de P o a E tp H w K:=by
 simp[bj,qHj]at Z;generalize hq:a.eval x=q at hx;generalize hxd:ev σ x=xd at hx Z;cases xd<;>try (exact Z.elim)
 ·rename_i id xv;cases hx;simp[iR]at Z;split at Z
  ·rename_i x' es hH
   let ⟨rfl,F,hfk,hup,hno⟩:=Z
   have hsat:∀i r,H i=some r->ResOk (R tp (be E.O tp H w) w) w r:=hst.sat.ok;obtain⟨b,s,clock,rfl,hb,hbo,h⟩:=hsat _ _ hH;have J:=WE hfk hk;have hck:(Instr.checkKey false 10000 kt (a.eval k)).run P w= .ok () w:=by
    let ⟨xs,h1,h2⟩:=J
    rw[h1];exact qwk false 50 kt ks ka t.c t.a 9950 xs h2
   let ⟨r,hr,L⟩:=WF (P:=P) t J s.toList (WN h F)
   have hset:∀ob:Obj,(setObj b ob).run P w= .ok () (setBlock w b ob):=λob=>by grind [StW,KeyT,setObj,Sem.run,setBlock]
   have tD:∀(p:Array MapEntry) (l:Nat) (es':List D),(Instr.mapUpdate ty (.map (some b)) (a.eval k) (a.eval v)).run P w= .ok () (setBlock w b (.map p l))->fI p l->
    (∀(Q:Value->D->Prop),(∀y d,R tp (be E.O tp H w) w y d->Q y d)->(∀(k' v':Value) (c d:D),Q k' c->Q v' d->Q (.tuple #[k',v']) (.tup [c,d]))->BB Q p es')->K .undef (aj H id (some (.mrow (.map (some b)) es')))->de P o a E tp H w K:=by
    intro p l es' hrun hbo' u hK;have hm:=hst.own id (some (.mrow (.map (some b)) es')) (zA w b (.map p l)) (λc hc=>by cases hc;exact⟨_,hH,rfl⟩) (λr c h1 h2=>by cases h1;cases h2;exact .inr ⟨_,hH,rfl⟩) (λm r h1=>by
     cases h1;exact⟨b,p,l,rfl,uH _ hb,hbo',u _ m λk' v' c d h1 h2=>R.mk_ent h1 h2⟩)
    refine⟨.skip,Go.undef, .undef,_,_,?_, .inr ⟨rfl,rfl⟩,hm, .undef,hK⟩;rcases ho with ho|ho<;>simp[execOp,ho,hq,hrun]
   rcases L with⟨rfl,hne⟩|⟨j,e,rfl,hj,hke⟩
   ·refine tD (s.push { key:=a.eval k,val:=a.eval v,born:=clock }) (clock+1) (es++ [.tup [ev σ k,ev σ v]]) ?_ (qhn hbo) (λQ M hT=>⟨by simp[h.1],λi e c he hc=>?_⟩) (hno λhp v' hmem=>?_);simp_all [Instr.mapUpdate,getObj,Sem.run,run_underlying]
    ·rw[Array.getElem?_push]at he;split at he
     ·rename_i hi;cases he;rw[qGH (by rw[<-h.1];lia)]at hc;rw[<-h.1,hi]at hc;simp at hc;subst hc;exact hT _ _ _ _ (M _ _ hk) (M _ _ hvv)
     ·have N:=(qGg.1 he).1;rw[qGI (by rw[<-h.1];exact N)]at hc;exact M _ _ (h.2 i e c he hc)
    ·let ⟨i,hi⟩:=qGp.1 hmem
     have N:i<s.size:=by rw[h.1];exact(qF4.1 hi).1
     have hR:=h.2 i s[i] _ (by simp[N]) hi;exact hne s[i] (by simp) (Vt hp hR.ent.1 hk)
   ·have S:s[j]? =some e:=by simpa using hj
    let ⟨c,hc,hR⟩:=Dw h S
    obtain⟨k',v',rfl,_⟩:=IZ (qGa.1 F c (qF7 hc));have U:j<es.length:=(qF4.1 hc).1;have A:es=es.take j++D.tup [k',v']::es.drop (j+1):=by
     have h1:=(qF4.1 hc).2;rw[<-h1,<-qGP U,qGB]
    have W:es.take j++D.tup [ev σ k,ev σ v]::es.drop (j+1)=es.set j (.tup [ev σ k,ev σ v]):=by
     rw[qHR,if_pos U]
    have hK:=hup _ k' v' _ A ⟨tp,be E.O tp H w,w,a.eval k,hk,by rw[<-hke];exact hR.ent.1⟩;rw[W]at hK;refine tD (s.modify j λe=>{ e with key:=a.eval k,val:=a.eval v }) clock (es.set j (.tup [ev σ k,ev σ v])) ?_ (qbi hbo) (λQ M hT=>⟨by simp[h.1],λi e2 c2 he C=>?_⟩) hK
    ·have hst2:(Instr.keyThatStays e.key (a.eval k)).run P w= .ok (a.eval k) w:=by rw[hke];exact qil t.one J
     simp[Instr.mapUpdate,run_underlying ht,getObj,Sem.run,hb,hck,hr,hset,S,hst2]
    ·rw[qHX]at he;by_cases Y:j=i
     ·subst Y;rw[if_pos rfl,S]at he;cases he;rw[qHi U]at C;cases C;exact hT _ _ _ _ (M _ _ hk) (M _ _ hvv)
     ·rw[if_neg Y]at he;rw[List.getElem?_set_ne Y]at C;exact M _ _ (h.2 i e2 c2 he C)
  grind
def qnU{b:Nat}{d:Array MapEntry}{clock:Nat}{es:List D}(hI:I b)(hb:w.heap[b]? =some (.map d clock))(l:fI d clock)(j:BB (R tp I w) d es):R tp I w (PH (some b) clock #[] clock) (.mst [] es):=by
 have hl:jq d #[]=d.toList:=by simp[jq]
 refine .mst b d clock clock clock #[] default [] es hI hb l l.1 ⟨qGb _,qGb _⟩ (by rw[hl];exact j.1) (.inl rfl) (λc h=>by cases h) (λk e c he hc=>?_);rw[hl,qGx]at he;exact j.2 k e c he hc
theorem qrf{t ty S U:TypeId}{x:Operand}{K:D->ab->Prop}(p:StW E tp H w)(ho:o.op= .range ty x)(ht:P.underlying ty=some (.map S U))(u:R tp (be E.O tp H w) w (a.eval x) (ev σ x))(W:o.dst=some t)
 (l:bj (.m .rng [x]) o.dst σ H K):de P o a E tp H w K:=by
 simp[bj,iR,W]at l;generalize hq:a.eval x=q at u;have tD:∀(m:Option Nat) (clock:Nat) (es:List D),(Instr.range ty q).run P w= .ok (.pointer (some ⟨w.heap.size,0,none⟩)) (w.alloc (.mapIter m clock #[] clock))->(∀(A:Nat->Prop) (w':World),(∀y d,R tp (be E.O tp H w) w y d->R tp A w' y d)->R tp A w' (PH m clock #[] clock) (.mst [] es))->
  (∀b,K (.bptr t b 0) (aj H t (some (.miter b [] es))))->de P o a E tp H w K:=by
  intro m clock es N Y L;refine⟨_, .pointer (some ⟨w.heap.size,0,none⟩), .bptr t w.heap.size 0,_,w.alloc (.mapIter m clock #[] clock),?_, .inl rfl,pi (r':= .miter w.heap.size [] es) p (λb hb=>by cases hb;rfl) (λmv=>⟨m,clock,clock, #[],heap_alloc_new _ _,Y _ _ mv⟩), .bptr _ _ _,L _⟩;grind [execOp,Sem.run_bind,Result.andThen_ok,Sem.run_pure]
 split at l
 ·rename_i es C;rw[C]at u;cases u with
  |nomp=>exact tD none 0 [] (by grind [run_range_nilMap]) (λA w' _=> .nomst _ _ _) l
  | mp b j clock _ hI hh hl hb h=>
    exact tD (some b) clock es (by grind [StW,D,ev,be,fI,de,run_range_map]) (λA w' mv=>mv _ _ (qnU hI hh hb ⟨hl,h⟩)) l
 ·rename_i C;rw[C]at u;have:=u.inv_v;exact tD none 0 [] (by grind [StW,D,ev,run_range_nilMap]) (λA w' _=> .nomst _ _ _) l
 ·rename_i id xv C;rw[C]at u;cases u;unfold LV at l;split at l
  ·rename_i x' es Q
   let ⟨rfl,L⟩:=l
   obtain⟨b,j,clock,rfl,h1,h2,h3⟩:=p.sat.ok _ _ Q;have F:=p.own id (some (.raw (.mrs (.map (some b)) es (j.toList.map (·.born)) clock))) (gm w none) (λc hc=>by grind) (λr c M Z=>by cases M;exact .inr ⟨_,Q,Z⟩) (λmv r M=>by
    cases M;exact⟨b,j,rfl,h1,h2,rfl,h3.1,λk e c he hc=>mv _ _ (h3.2 k e c he hc)⟩)
   have J:=pi (t:=t) (ob:= .mapIter (some b) clock #[] clock) (r':= .raw (.mit w.heap.size id (.map (some b)) clock [])) F.1 (λc hc=>by cases hc;rfl) (λmv=>⟨b,rfl,heap_alloc_new _ _⟩);refine⟨_, .pointer (some ⟨w.heap.size,0,none⟩), .bptr t w.heap.size 0,_,w.alloc (.mapIter (some b) clock #[] clock),?_, .inl rfl,⟨J.1,λy d h=>J.2 _ _ (F.2 _ _ h)⟩, .bptr _ _ _,L w.heap.size _ clock ⟨by rw[qGE];exact h3.1,h2.2,λs hs=>?_⟩⟩;grind [execOp,Sem.run_bind,Result.andThen_ok,Sem.run_pure,run_range_map];grind [fI]
  grind
 grind
def Y1{α:Type}{l:List α}{j:Nat}{x:α}(h:l[j]? =some x):l=l.take j++x::l.drop (j+1):=by
 grind [List.drop_eq_getElem_cons,List.take_append_drop]
def qgM{es:Array MapEntry}{seen:Array Nat}{c d:List MapEntry}{e:MapEntry}(hn:(es.toList.map (·.born)).Nodup)(h:jq es seen=c++e::d):jq es (seen.push e.born)=c++d:=by
 have b:((jq es seen).map (·.born)).Nodup:=by
  refine List.Nodup.sublist (List.Sublist.map _ qIg) hn
 rw[h]at b;have h2:jq es (seen.push e.born)=(jq es seen).filter λy=>!(y.born==e.born):=by
  simp[jq];grind
 rw[h2,h,qHw];have he:(!(e.born==e.born))=false:=by simp
 simp[if_false];grind [List.filter_eq_self]
theorem qnK{x:Operand}{K:D->ab->Prop}(u:StW E tp H w)(ho:o.op= .next x false)(hx:R tp (be E.O tp H w) w (a.eval x) (ev σ x))(A:bj (.m .next [x]) o.dst σ H K):de P o a E tp H w K:=by
 simp[bj,qHj]at A;generalize hq:a.eval x=q at hx;generalize hxd:ev σ x=xd at hx A;cases xd<;>try (exact A.elim)
 rename_i id b off;simp[iR]at A;obtain⟨rfl,A⟩:=A;cases hx;split at A
 ·rename_i b' cur left U
  let ⟨rfl,h1,h2⟩:=A
  let ⟨m,since,last,seen,W,g2⟩:=u.sat.ok id _ U
  have over:(Instr.next (.pointer (some ⟨b',0,none⟩)) false o.type).run P w= .ok (.tuple #[.bool false]) w->left=[]->de P o a E tp H w K:=λl hl=>
   ⟨_,_,_,_,w,by grind [StW,D,ev,execOp,Sem.run_bind,Result.andThen_ok,Sem.run_pure], .inl rfl,⟨u,λy e h=>h⟩, .tup [.bool false] [.v (.bool false)] rfl (λk y c h1 h2=>by
    match k with
    | 0=>simp at h1 h2;subst h1;subst h2;exact .bool _
    |k+1=>grind),h1 hl⟩
  rcases qeI g2 with⟨rfl,_,hl⟩|⟨Q,es,clock,ce,rfl,hI,hb,F,hs,hsl,hsc,hl,hc,hcr,J⟩
  ·exact over (by simp[Instr.next,getObj,Sem.run,W]) hl
  ·rcases run_next_at (P:=P) w o.type b' Q since last seen es clock W hb hs hsl with⟨h0,l⟩|⟨e,he,w1,L,l⟩
   ·have:(jq es seen).length=0:=by
     have h3:(leftOf es seen).toList=jq es seen:=by simp[leftOf,jq]
     grind
    grind
   ·have h3:(leftOf es seen).toList=jq es seen:=by simp[leftOf,jq]
    rw[h3]at he
    let ⟨j,hj⟩:=qGp.1 he
    have hjl:j<left.length:=by grind
    have hd:left[j]? =some left[j]:=qF6 hjl;have hR:=J j e _ hj hd;have hsp:=Y1 hj;have hds:=Y1 hd;have M:=qgM F.2 hsp;have Y:GrB w (setBlock w1 b' (.mapIter (some Q) since (seen.push e.born) clock)) (some b'):=by
     rcases L with rfl|rfl;grind [GrB,D,ev,fI,jq,StW,de,zA]
     ·have:=zA w.drew b' (.mapIter (some Q) since (seen.push e.born) clock);exact⟨⟨rfl,rfl,rfl,this.size,this.block⟩,qHp _⟩
    have Z:(setBlock w1 b' (.mapIter (some Q) since (seen.push e.born) clock)).heap[b']? =some (.mapIter (some Q) since (seen.push e.born) clock):=by
     rcases L with rfl|rfl;grind [D,ev,fI,jq,StW,de,uH]
     ·exact uH (w:=w.drew) _ W
    have hlen:(left.take j++left.drop (j+1)).length=((jq es seen).take j++ (jq es seen).drop (j+1)).length:=by
     simp[qGC,qGv,qG9,hl]
    have hgood:R tp (be E.O tp H w) w (PH (some Q) since (seen.push e.born) clock) (.mst [left[j]] (left.take j++left.drop (j+1))):=by
     refine .mst Q es clock since clock (seen.push e.born) e _ _ hI hb F hs ⟨hsc,hsc⟩ (by rw[M,hlen]) (.inr ⟨rfl,by simp,?_,rfl⟩) (λc hc=>by cases hc;exact hR) (λk y c hy hc=>?_)
     ·have:=qF7 hj;exact(qG2.1 this).1
     ·rw[M]at hy;by_cases hk:k<j
      ·rw[qGI (by rw[qGv];have:=(qF4.1 hj).1;lia),qGo,if_pos hk]at hy;rw[qGI (by rw[qGv];lia),qGo,if_pos hk]at hc;exact J k y c hy hc
      ·have hjl2:=(qF4.1 hj).1;have e1:((jq es seen).take j).length=j:=by rw[qGv];lia
       have e2:(left.take j).length=j:=by rw[qGv];lia
       rw[qGH (by rw[e1];lia),qG8,e1]at hy;rw[qGH (by rw[e2];lia),qG8,e2]at hc;exact J _ y c hy hc
    have hm:=u.own id (some (.miter b' [left[j]] (left.take j++left.drop (j+1)))) Y (λc hc=>by cases hc;exact⟨_,U,rfl⟩) (λr c h1 h2=>by cases h1;cases h2;exact .inr ⟨_,U,rfl⟩) (λm r h1=>by
     cases h1;exact⟨some Q,since,clock,seen.push e.born,Z,m _ _ hgood⟩)
    refine⟨_,_, .tup [.v (.bool true), .any, .any],_,_,by simp[execOp,ho,hq,qGs,l,qGj,qGy], .inl rfl,hm, .tup [.bool true,e.key,e.val] _ rfl (λk y c h1 h2=>by
     match k with
     | 0=>simp at h1 h2;subst h1;subst h2;exact .bool _
     | 1=>simp at h1 h2;subst h1;subst h2;exact .any _
     | 2=>simp at h1 h2;subst h1;subst h2;exact .any _
     |k+3=>simp at h1),h2 _ _ _ hds⟩
 ·rename_i b' m xm clock seen U
  let ⟨rfl,A⟩:=A
  unfold L5 at A;split at A
  ·rename_i x' es st d hM
   let ⟨rfl,rfl,h0,h1⟩:=A
   obtain⟨S,rfl,W⟩:=u.sat.ok id _ U;obtain⟨Q,t,hbm,hb,F,rfl,N⟩:=u.sat.ok m _ hM;cases hbm;have h3:(leftOf t seen.toArray).toList=jq t seen.toArray:=by simp[leftOf,jq]
   rcases run_next_at (P:=P) w o.type b' S d d seen.toArray t d W hb F.1 (qGb _)with⟨hz,l⟩|⟨e,he,w1,L,l⟩
   ·have hm:=u.own m (some (.mrow (.map (some S)) es)) (gm w none) (λc hc=>by cases hc) (λr c p C=>by cases p;exact .inr ⟨_,hM,C⟩) (λmv r p=>by
     cases p;exact⟨S,t,d,rfl,hb,F,N.1,λk e c he hc=>mv _ _ (N.2 k e c he hc)⟩)
    refine⟨_,_, .tup [.v (.bool false)],_,w,by simp[execOp,ho,hq,qGs,l,qGj,qGy], .inl rfl,hm, .tup [.bool false] [.v (.bool false)] rfl (λk y c p C=>by
     match k with
     | 0=>simp at p C;subst p;subst C;exact .bool _
     |k+1=>simp at p),h0 λs hs=>?_⟩
    have h4:jq t seen.toArray=[]:=qGW.1 (by rw[<-h3,qGV];exact hz);obtain⟨e,he,rfl⟩:=qGd.1 hs;have h5:=List.filter_eq_nil_iff.1 h4 e he;simpa using h5
   ·rw[h3]at he
    let ⟨he1,he2⟩:=qG2.1 he
    have hns:e.born∉seen:=by simpa using he2
    have Y:GrB w (setBlock w1 b' (.mapIter (some S) d (seen.toArray.push e.born) d)) (some b'):=by
     rcases L with rfl|rfl
     ·exact zA _ _ _
     ·have:=zA w.drew b' (.mapIter (some S) d (seen.toArray.push e.born) d);exact⟨⟨rfl,rfl,rfl,this.size,this.block⟩,qHp _⟩
    have Z:(setBlock w1 b' (.mapIter (some S) d (seen.toArray.push e.born) d)).heap[b']? =some (.mapIter (some S) d (seen.toArray.push e.born) d):=by
     rcases L with rfl|rfl
     ·exact uH _ W
     ·exact uH (w:=w.drew) _ W
    have hm:=u.own id (some (.raw (.mit b' m (.map (some S)) d (seen++ [e.born])))) Y (λc hc=>by cases hc;exact⟨_,U,rfl⟩) (λr c p C=>by cases p;cases C;exact .inr ⟨_,U,rfl⟩) (λmv r p=>by
     cases p;exact⟨S,rfl,by rw[Z];simp⟩)
    refine⟨_,_, .tup [.v (.bool true), .any, .any],_,_,by simp[execOp,ho,hq,qGs,l,qGj,qGy], .inl rfl,hm, .tup [.bool true,e.key,e.val] _ rfl (λk y c p C=>by
     match k with
     | 0=>simp at p C;subst p;subst C;exact .bool _
     | 1=>simp at p C;subst p;subst C;exact .any _
     | 2=>simp at p C;subst p;subst C;exact .any _
     |k+3=>simp at p),h1 _ (qGd.2 ⟨e,he1,rfl⟩) hns⟩
  ·exact A.elim
 grind
def KY{α b:Type}(f:α->b):∀(l:List α) (i:Nat),(l.eraseIdx i).map f=(l.map f).eraseIdx i
 | [],i=>by simp
 |a::l,0=>by simp
 |a::l,i+1=>by simp[KY f l i]
theorem qrg{t kt et Q:TypeId}{c:Call}{x k:Operand}{ka:Bool}{ks:List KK}{K:D->ab->Prop}(S:StW E tp H w)(ho:o.op= .call c)(hc:c.callee= .builtin .delete)(hat:c.argTypes.toList=[t,Q])(hargs:c.args.toList=[x,k])(ht:P.underlying t=some (.map kt et))(F:KeyT P kt ka ks)
 (hx:R tp (be E.O tp H w) w (a.eval x) (ev σ x)) (hk:R tp (be E.O tp H w) w (a.eval k) (ev σ k)) (N:bj (.m (.del ka ks) [x,k]) o.dst σ H K):de P o a E tp H w K:=by
 let ⟨cl,⟨args⟩,⟨ats⟩⟩:=c
 simp[bj,qHj]at N;generalize hq:a.eval x=q at hx;generalize hxd:ev σ x=xd at hx N;cases xd<;>try (exact N.elim)
 rename_i id xv;cases hx;simp[iR]at N;split at N
 ·rename_i x' es st clock hH
  let ⟨rfl,A,hfk,hup,hno⟩:=N
  obtain⟨b,d,rfl,hb,J,rfl,l⟩:=S.sat.ok _ _ hH;have U:=WE hfk hk;have W:∀em,(Instr.checkKey em 10000 kt (a.eval k)).run P w= .ok () w:=λem=>by
   let ⟨xs,h1,h2⟩:=U
   rw[h1];exact qwk em 50 kt ks ka F.c F.a 9950 xs h2
  let ⟨r,hr,L⟩:=WF (P:=P) F U d.toList (WN l A)
  have C:∀ob:Obj,(setObj b ob).run P w= .ok () (setBlock w b ob):=λob=>by grind [StW,KeyT,setObj,Sem.run,setBlock]
  have tD:∀(p:Array MapEntry) (es':List D) (y:List Nat),(∀ty,(Builtin.delete_ #[t,Q] ty #[.map (some b),a.eval k]).run P w= .ok (.tuple #[]) (setBlock w b (.map p clock)))->fI p clock->p.toList.map (·.born)=y->
   BB (R tp (be E.O tp H w) w) p es'->K (.tup []) (aj H id (some (.raw (.mrs (.map (some b)) es' y clock))))->de P o a E tp H w K:=by
   intro p es' y hrun Y Z s hK;have hm:=S.own id (some (.raw (.mrs (.map (some b)) es' y clock))) (zA w b (.map p clock)) (λc hc=>by cases hc;exact⟨_,hH,rfl⟩) (λr c k1 k2=>by cases k1;cases k2;exact .inr ⟨_,hH,rfl⟩) (λmv r k1=>by
    cases k1;exact⟨b,p,rfl,uH _ hb,Y,Z,s.1,λk e c he hc=>mv _ _ (s.2 k e c he hc)⟩)
   refine⟨.value (.tuple #[]), .tuple #[], .tup [],_,_,?_, .inl rfl,hm, .tup [] [] rfl (λk x c h=>by simp),hK⟩;simp_all [execOp,resolve,invoke,builtin]
  rcases L with⟨rfl,hne⟩|⟨j,e,rfl,hj,hke⟩
  ·refine tD d es _ (λty=>?_) J rfl l (hno λhp v' hmem=>?_)
   ·simp[Builtin.delete_,run_underlying ht,getObj,Sem.run,hb,W,hr,C]
   ·let ⟨i,hi⟩:=qGp.1 hmem
    have hlt:i<d.size:=by rw[l.1];grind
    have hR:=l.2 i d[i] _ (by simp) hi;exact hne d[i] (by simp) (Vt hp hR.ent.1 hk)
  ·have hj':d[j]? =some e:=by simpa using hj
   have hjl:j<d.size:=(qGg.1 hj').1
   let ⟨c,hc,hR⟩:=Dw l hj'
   obtain⟨k',v',rfl,_⟩:=IZ (qGa.1 A c (qF7 hc));have hl:(d.eraseIdxIfInBounds j).toList=d.toList.eraseIdx j:=by simp[Array.eraseIdxIfInBounds,hjl]
   refine tD (d.eraseIdxIfInBounds j) (es.eraseIdx j) ((d.toList.map (·.born)).eraseIdx j) (λty=>?_) ⟨λe he=>?_,?_⟩ ?_ ⟨?_,λi e2 c2 he u=>?_⟩ (hup j k' v' hc ⟨tp,be E.O tp H w,w,a.eval k,hk,by rw[<-hke];exact hR.ent.1⟩)
   ·simp[Builtin.delete_,run_underlying ht,getObj,Sem.run,hb,W,hr,C]
   ·rw[hl]at he;exact J.1 e (List.mem_of_mem_eraseIdx he)
   ·rw[hl,KY];exact J.2.sublist (List.eraseIdx_sublist _ _)
   ·rw[hl,KY]
   ·rw[<-qGV,hl,List.length_eraseIdx,List.length_eraseIdx,qGV,l.1]
   ·rw[<-qGx,hl,List.getElem?_eraseIdx]at he;rw[List.getElem?_eraseIdx]at u;split at he
    ·rename_i M;rw[if_pos M]at u;exact l.2 i e2 c2 (by simpa using he) u
    ·rename_i M;rw[if_neg M]at u;exact l.2 (i+1) e2 c2 (by simpa using he) u
 grind
end
end Go.Gv
