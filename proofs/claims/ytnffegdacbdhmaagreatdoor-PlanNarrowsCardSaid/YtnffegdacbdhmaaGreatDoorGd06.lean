/- S8 -/
import Derived.ChangeKeysEq
import Derived.Maps.RangeRun
import Derived.MapKept
import Derived.Test.YtnffegdacbdhmaaGreatDoorGd05
set_option linter.all false
namespace Go.Gv
def quD(w:World):KK->Value->Prop
 | .int k,x=>∃n,x= .int k n
 | .str,x=>∃s,x= .string s
 | .bool,x=>∃b,x= .bool b
 | .ptr,x=>x= .pointer none\/ ∃b off,x= .pointer (some ⟨b,off,none⟩)/\PlainB w b
def KVl(w:World):List KK->List Value->Prop
 | [], []=>True
 |k::ks,x::xs=>quD w k x/\KVl w ks xs
 | _,_=>False
def Hj(ka:Bool)(xs:List Value):Value:=if ka then .agg xs.toArray else xs.headD undef
def KVl.length{w:World} :∀{ks:List KK} {xs:List Value},KVl w ks xs->xs.length=ks.length
 | [], [],_=>rfl
 | _::ks,_::xs,h=>by simp[KVl.length h.2]
 | [],_::_,h=>h.elim
 | _::_, [],h=>h.elim
def KVl.split{w:World} :∀{k1 k2:List KK} {xs:List Value},KVl w (k1++k2) xs->∃x1 x2,xs=x1++x2/\KVl w k1 x1/\KVl w k2 x2
 | [],k2,xs,h=>⟨[],xs,rfl,trivial,h⟩
 | k::k1,k2,x::xs,h=>by
   obtain⟨x1,x2,rfl,h1,h2⟩:=KVl.split h.2;exact⟨x::x1,x2,rfl,⟨h.1,h1⟩,h2⟩
 | _::_,_, [],h=>h.elim
section
variable {P:Program}{w:World}
def Ps{t:TypeId}{n:Nat}(h:dn P t=some n):∃i,P.info? t=some i/\P.cellsOf t=n:=by
 unfold dn at h;cases hu:P.info? t with
 |none=>simp[hu]at h
 | some i=>
   rw[hu]at h;simp at h;exact⟨i,rfl,by simp[Program.cellsOf,hu,h]⟩
def ye{n:Nat}{t:TypeId}{ks:List KK}(h:Kx P n t=some ks):∃ka,iv P t=some ka/\(ka=false->∃k,ks=[k]):=by
 cases n with
 |zero=>cases h
 | succ n=>
   unfold Kx at h;unfold iv;split at h
   ·rename_i k hu;rw[hu];cases h;exact⟨false,rfl,λ_=>⟨_,rfl⟩⟩
   ·rename_i hu;rw[hu];cases h;exact⟨false,rfl,λ_=>⟨_,rfl⟩⟩
   ·rename_i hu;rw[hu];cases h;exact⟨false,rfl,λ_=>⟨_,rfl⟩⟩
   ·rename_i e hu;rw[hu];split at h
    ·cases h;exact⟨false,rfl,λ_=>⟨_,rfl⟩⟩
    ·cases h
   ·rename_i fs hu;rw[hu];exact⟨true,rfl,λh=>by cases h⟩
   ·rename_i len e hu;rw[hu];exact⟨true,rfl,λh=>by cases h⟩
   ·cases h
def tP{e:TypeId}{ka:Bool}(ha:iv P e=some ka){pre mid post:List Value}(hs:dn P e=some mid.length)(h1:ka=false->mid.length=1):
 (part e (pre++ (mid++post)).toArray pre.length).run P w= .ok (Hj ka mid) w:=by
 cases ka with
 | true=>
   simp only[part,qAk,tQ ha,qz8,if_true,aW hs,qAu,Hj];congr 2;apply qBy.1;simp[List.drop_append,List.take_append]
 | false=>
   obtain⟨x,rfl⟩:=qBl.1 (h1 rfl);have hx:(pre++ ([x] ++post))[pre.length]? =some x:=by simp
   rw[Mc ha hx];rfl
theorem RK{b c o p:Nat}(h1:PlainB w b)(h2:PlainB w c):(sameAddr ⟨b,o,none⟩ ⟨c,p,none⟩).run P w= .ok ((⟨b,o,none⟩:Addr)==⟨c,p,none⟩) w:=by
 obtain⟨xs,el,h1⟩:=h1;obtain⟨ys,el2,h2⟩:=h2;have fr:∀(b o:Nat) (xs:Array Value) (el:Nat),w.heap[b]? =some (.cells xs el (0,0))->w.frozen? ⟨b,o,none⟩=false:=λb o xs el h=>by
  simp[World.frozen?,h]
 have sh:∀(b:Nat) (xs:Array Value) (el:Nat),w.heap[b]? =some (.cells xs el (0,0))->w.shape? b=some (el,xs.size):=λb xs el h=>by
  simp[World.shape?,h]
 by_cases hbc:b=c
 ·subst hbc;simp[sameAddr]
 ·have hne:((⟨b,o,none⟩:Addr)==⟨c,p,none⟩)=false:=by
   simp[hbc]
  rw[hne];have hb:(b==c)=false:=by simp[hbc]
  simp[sameAddr,hb,frozen,shape,Sem.run,fr _ _ _ _ h1,fr _ _ _ _ h2,noView,viewAt,sh _ _ _ h1,sh _ _ _ h2,mayBeOne,stringish]
def qnP(P:Program)(w:World)(dd:Nat)(e:TypeId)(ka:Bool)(ks:List KK):Prop:=
 ∀xs ys,KVl w ks xs->KVl w ks ys->∃r:Bool,(Op.equalIn dd e (Hj ka xs) (Hj ka ys)).run P w= .ok r w/\(r=true↔xs=ys)
theorem Qm{dd:Nat}{kf:TypeId->Option (List KK)}(hk:∀t ks,kf t=some ks->∃ka,iv P t=some ka/\(ka=false->ks.length=1)/\qnP P w dd t ka ks):
 ∀ (fs:List Field) (off:Nat) (ks:List KK),CK P kf fs off=some ks->∀pre xs pre' ys:List Value,pre.length=off->pre'.length=off->KVl w ks xs->KVl w ks ys->
  ∃r:Bool,(Op.eqFields dd (pre++xs).toArray (pre'++ys).toArray fs).run P w= .ok r w/\(r=true↔xs=ys)
 | [],off,ks,h,pre,xs,pre',ys,_,_,hx,hy=>by
   cases h;have h1:=qAN.1 hx.length;have h2:=qAN.1 hy.length;subst h1;subst h2;exact⟨true,by simp[Op.eqFields],by simp⟩
 | f::fs,off,ks,h,pre,xs,pre',ys,hp,hp',hx,hy=>by
   unfold CK at h;simp only[qzW,qzU]at h;obtain⟨k1,hk1,h⟩:=h;split at h
   ·rename_i hcond;simp only[qzU,qAa,qzZ,decide_eq_true_eq]at h hcond;obtain⟨l,hl,rfl⟩:=h;obtain⟨⟨hoff,hn⟩,hsz⟩:=hcond;obtain⟨x1,x2,rfl,hx1,hx2⟩:=hx.split;obtain⟨y1,y2,rfl,hy1,hy2⟩:=hy.split;obtain⟨ka,ha,h1,heq⟩:=hk _ _ hk1;have p1:(part f.type (pre++ (x1++x2)).toArray f.offset).run P w= .ok (Hj ka x1) w:=by
     rw[hoff,<-hp];exact tP ha (by rw[hx1.length];exact hsz) (λe=>by rw[hx1.length];exact h1 e)
    have p2:(part f.type (pre'++ (y1++y2)).toArray f.offset).run P w= .ok (Hj ka y1) w:=by
     rw[hoff,<-hp'];exact tP ha (by rw[hy1.length];exact hsz) (λe=>by rw[hy1.length];exact h1 e)
    obtain⟨r,p3,hr⟩:=heq x1 y1 hx1 hy1;obtain⟨r',p4,hr'⟩:=Qm hk fs (off+k1.length) l hl (pre++x1) x2 (pre'++y1) y2 (by simp[hp,hx1.length]) (by simp[hp',hy1.length]) hx2 hy2;rw[qAH,qAH]at p4;have happ:x1++x2=y1++y2↔x1=y1/\x2=y2:=⟨λh=>List.append_inj h (by rw[hx1.length,hy1.length]),λ⟨h1,h2⟩=>by rw[h1,h2]⟩
    simp only[Op.eqFields,hn,ne_eq,not_false_eq_true,if_true,qAk,p1,p2,p3,qz8,happ];cases r
    ·exact⟨false,by simp,by simp;intro e;exact absurd (hr.2 e) (by simp)⟩
    ·exact⟨r',by simpa using p4,by rw[hr'];simp[hr.1 rfl]⟩
   ·cases h
theorem Wz{dd:Nat}{e:TypeId}{ka:Bool}{ks:List KK}(ha:iv P e=some ka)(hs:dn P e=some ks.length)(h1:ka=false->ks.length=1)(heq:qnP P w dd e ka ks):
 ∀ (m s:Nat) (pre xs pre' ys:List Value),pre.length=s*ks.length->pre'.length=s*ks.length->KVl w (List.replicate m ks).flatten xs->KVl w (List.replicate m ks).flatten ys->
  ∃r:Bool,(Op.eqItems dd e ks.length (pre++xs).toArray (pre'++ys).toArray (List.range' s m)).run P w= .ok r w/\(r=true↔xs=ys)
 | 0,s,pre,xs,pre',ys,_,_,hx,hy=>by
   have h1:=qAN.1 (KVl.length (ks:=[]) (by simpa using hx));have h2:=qAN.1 (KVl.length (ks:=[]) (by simpa using hy));subst h1;subst h2;exact⟨true,by simp[Op.eqItems],by simp⟩
 | m+1,s,pre,xs,pre',ys,hp,hp',hx,hy=>by
   rw[qCn,qCv]at hx hy;obtain⟨x1,x2,rfl,hx1,hx2⟩:=hx.split;obtain⟨y1,y2,rfl,hy1,hy2⟩:=hy.split;have p1:(part e (pre++ (x1++x2)).toArray (s*ks.length)).run P w= .ok (Hj ka x1) w:=by
    rw[<-hp];exact tP ha (by rw[hx1.length];exact hs) (λe=>by rw[hx1.length];exact h1 e)
   have p2:(part e (pre'++ (y1++y2)).toArray (s*ks.length)).run P w= .ok (Hj ka y1) w:=by
    rw[<-hp'];exact tP ha (by rw[hy1.length];exact hs) (λe=>by rw[hy1.length];exact h1 e)
   obtain⟨r,p3,hr⟩:=heq x1 y1 hx1 hy1;obtain⟨r',p4,hr'⟩:=Wz ha hs h1 heq m (s+1) (pre++x1) x2 (pre'++y1) y2 (by simp[hp,hx1.length,qAI]) (by simp[hp',hy1.length,qAI]) hx2 hy2;rw[qAH,qAH]at p4;have happ:x1++x2=y1++y2↔x1=y1/\x2=y2:=⟨λh=>List.append_inj h (by rw[hx1.length,hy1.length]),λ⟨h1,h2⟩=>by rw[h1,h2]⟩
   rw[qBY];simp only[Op.eqItems,qAk,p1,p2,p3,qz8,happ];cases r
   ·exact⟨false,by simp,by simp;intro e;exact absurd (hr.2 e) (by simp)⟩
   ·exact⟨r',by simpa using p4,by rw[hr'];simp[hr.1 rfl]⟩
def F3{ka:Bool}{ks:List KK}(h:ka=false->∃k,ks=[k]):ka=false->ks.length=1:=λe=>by
 obtain⟨k,rfl⟩:=h e;rfl
def KVl.one{k:KK}{xs:List Value}(h:KVl w [k] xs):∃x,xs=[x]/\quD w k x:=by
 match xs,h with
 | [x],h=>exact⟨x,rfl,h.1⟩
 | _::_::_,h=>exact h.2.elim
theorem qwF:∀(n:Nat) (t:TypeId) (ks:List KK) (ka:Bool),Kx P n t=some ks->iv P t=some ka->∀d,qnP P w (d+n) t ka ks
 | 0,t,ks,ka,h,_,_=>by cases h
 | n+1,t,ks,ka,h,ha,d=>by
   intro xs ys hx hy;have hd:d+ (n+1)=(d+n) +1:=rfl;rw[hd];unfold Kx at h;unfold iv at ha;split at h
   ·rename_i k hu;rw[hu]at ha;cases h;cases ha;obtain⟨x,rfl,m,rfl⟩:=hx.one;obtain⟨y,rfl,q,rfl⟩:=hy.one;exact⟨m==q,run_equalIn_int w _ t _ _ _ _ hu,by simp⟩
   ·rename_i hu;rw[hu]at ha;cases h;cases ha;obtain⟨x,rfl,m,rfl⟩:=hx.one;obtain⟨y,rfl,q,rfl⟩:=hy.one;exact⟨m.toList==q.toList,run_equalIn_string w _ t _ _ hu,by simp[qBO,qCw]⟩
   ·rename_i hu;rw[hu]at ha;cases h;cases ha;obtain⟨x,rfl,m,rfl⟩:=hx.one;obtain⟨y,rfl,q,rfl⟩:=hy.one;exact⟨m==q,run_equalIn_bool w _ t _ _ hu,by simp⟩
   ·rename_i e hu;rw[hu]at ha;split at h
    ·rename_i m hm;cases h;cases ha;obtain⟨x,rfl,hx⟩:=hx.one;obtain⟨y,rfl,hy⟩:=hy.one;simp only[Hj,qAJ,if_false,List.headD_cons];rcases hx with rfl|⟨b,o,rfl,hb⟩ <;>rcases hy with rfl|⟨c,p,rfl,hc⟩
     ·exact⟨true,by simp[Op.equalIn,run_underlying hu],by simp⟩
     ·exact⟨false,by simp[Op.equalIn,run_underlying hu],by simp⟩
     ·exact⟨false,by simp[Op.equalIn,run_underlying hu],by simp⟩
     ·refine⟨(⟨b,o,none⟩:Addr)==⟨c,p,none⟩,?_,by simp⟩;simp only[Op.equalIn,qAk,run_underlying hu,qz8,aW hm,ne_eq,Nat.add_eq_zero_iff,Nat.succ_ne_zero,and_false,not_false_eq_true,if_true];exact RK hb hc
    ·cases h
   ·rename_i fs hu;rw[hu]at ha;split at h
    ·cases h
    ·rename_i hst;cases ha;have hfo:P.fieldsOf t=fs:=by simp[Program.fieldsOf,hu]
     have hrun:=run_equalIn_struct (P:=P) w (d+n) t xs.toArray ys.toArray (by rw[hfo];exact hu) (by simpa using hst);rw[hfo]at hrun;obtain⟨r,hr,hiff⟩:=Qm (P:=P) (w:=w) (dd:=d+n) (kf:=Kx P n) (λt' ks' hk'=>by
      obtain⟨ka',ha',h1'⟩:=ye hk';exact⟨ka',ha',F3 h1',qwF n t' ks' ka' hk' ha' d⟩) fs.toList 0 ks h [] xs [] ys rfl rfl hx hy
     exact⟨r,by simp only[Hj,if_true];rw[hrun];simpa using hr,hiff⟩
   ·rename_i len e hu;rw[hu]at ha;cases ha;simp only[qzW,qzU]at h;obtain⟨k1,hk1,h⟩:=h;split at h
    ·rename_i hsz;cases h;obtain⟨i,hi,hco⟩:=Ps hsz;obtain⟨ka',ha',h1'⟩:=ye hk1;have hrun:=run_equalIn_array (P:=P) w (d+n) xs.toArray ys.toArray hu hi;rw[hco,qB0]at hrun;obtain⟨r,hr,hiff⟩:=Wz ha' hsz (F3 h1') (qwF n e k1 ka' hk1 ha' d) len 0 [] xs [] ys (by simp) (by simp) hx hy;exact⟨r,by simp only[Hj,if_true];rw[hrun];simpa using hr,hiff⟩
    ·cases h
   ·cases h
def qzS(P:Program)(w:World)(em:Bool)(dd:Nat)(e:TypeId)(ka:Bool)(ks:List KK):Prop:=∀xs,KVl w ks xs->(Instr.checkKey em dd e (Hj ka xs)).run P w= .ok () w
theorem qqO(em:Bool):∀(n:Nat) (t:TypeId) (ks:List KK) (ka:Bool),Kx P n t=some ks->iv P t=some ka->∀d,qzS P w em (d+n) t ka ks
 | 0,t,ks,ka,h,_,_=>by cases h
 | n+1,t,ks,ka,h,ha,d=>by
   intro xs hx;have hd:d+ (n+1)=(d+n) +1:=rfl;rw[hd,Instr.checkKey];unfold Kx at h;unfold iv at ha;split at h
   ·rename_i k hu;rw[hu]at ha;cases h;cases ha;obtain⟨x,rfl,m,rfl⟩:=hx.one;simp[Hj,run_underlying hu]
   ·rename_i hu;rw[hu]at ha;cases h;cases ha;obtain⟨x,rfl,m,rfl⟩:=hx.one;simp[Hj,run_underlying hu]
   ·rename_i hu;rw[hu]at ha;cases h;cases ha;obtain⟨x,rfl,m,rfl⟩:=hx.one;simp[Hj,run_underlying hu]
   ·rename_i e hu;rw[hu]at ha;split at h
    ·cases h;cases ha;obtain⟨x,rfl,hx⟩:=hx.one;rcases hx with rfl|⟨b,o,rfl,hb⟩ <;>simp[Hj,run_underlying hu]
    ·cases h
   ·rename_i fs hu;rw[hu]at ha;split at h
    ·cases h
    ·cases ha;simp only[Hj,if_true,qAk,run_underlying hu,qz8];rw[<-Array.forIn_toList];have key:∀(l:List Field) (off:Nat) (ks:List KK),CK P (Kx P n) l off=some ks->∀pre xs:List Value,pre.length=off->KVl w ks xs->
      (forIn l PUnit.unit fun f r => (do if f.name ≠ "_" then (do Instr.checkKey em (d + n) f.type (← part f.type (pre ++ xs).toArray f.offset); pure (ForInStep.yield PUnit.unit)) else pure (ForInStep.yield PUnit.unit) : Sem (ForInStep PUnit))).run P w = .ok PUnit.unit w := by
      intro l
      induction l with
      |nil=>intro off ks _ pre xs _ _;simp
      | cons f l ih=>
        intro off ks h pre xs hp hx;unfold CK at h;simp only[qzW,qzU]at h;obtain⟨k1,hk1,h⟩:=h;split at h
        ·rename_i hcond;simp only[qzU,qAa,qzZ,decide_eq_true_eq]at h hcond;obtain⟨l',hl,rfl⟩:=h;obtain⟨⟨hoff,hn⟩,hsz⟩:=hcond;obtain⟨x1,x2,rfl,hx1,hx2⟩:=hx.split;obtain⟨ka',ha',h1'⟩:=ye hk1;have p1:(part f.type (pre++ (x1++x2)).toArray f.offset).run P w= .ok (Hj ka' x1) w:=by
          rw[hoff,<-hp];exact tP ha' (by rw[hx1.length];exact hsz) (λe=>by rw[hx1.length];exact F3 h1' e)
         have p2:=qqO em n f.type k1 ka' hk1 ha' d x1 hx1;have p3:=ih (off+k1.length) l' hl (pre++x1) x2 (by simp[hp,hx1.length]) hx2;rw[qAH]at p3;simp only[List.forIn_cons,qAk,hn,ne_eq,not_false_eq_true,if_true,qz8,p1,p2,qAu];exact p3
        ·cases h
     have k0:=key fs.toList 0 ks h [] xs rfl hx;rw[qAZ]at k0;rw[k0];rfl
   ·rename_i len e hu;rw[hu]at ha;cases ha;simp only[qzW,qzU]at h;obtain⟨k1,hk1,h⟩:=h;split at h
    ·rename_i hsz;cases h;obtain⟨i,hi,hco⟩:=Ps hsz;obtain⟨ka',ha',h1'⟩:=ye hk1;simp only[Hj,if_true,qAk,run_underlying hu,qz8];simp only[Std.Legacy.Range.forIn_eq_forIn_range',Std.Legacy.Range.size,Nat.sub_zero,Nat.add_one_sub_one,Nat.div_one];have key:∀(m s:Nat) (pre xs:List Value),pre.length=s*k1.length->KVl w (List.replicate m k1).flatten xs->
      (forIn (List.range' s m) PUnit.unit λi r=>(do Instr.checkKey em (d+n) e (<-part e (pre++xs).toArray (i* (<-sizeOf e)));pure (ForInStep.yield PUnit.unit):Sem (ForInStep PUnit))).run P w= .ok PUnit.unit w:=by
      intro m
      induction m with
      |zero=>intro s pre xs _ _;simp
      | succ m ih=>
        intro s pre xs hp hx;rw[qCn,qCv]at hx;obtain⟨x1,x2,rfl,hx1,hx2⟩:=hx.split;have p1:(part e (pre++ (x1++x2)).toArray (s*k1.length)).run P w= .ok (Hj ka' x1) w:=by
         rw[<-hp];exact tP ha' (by rw[hx1.length];exact hsz) (λe=>by rw[hx1.length];exact F3 h1' e)
        have p2:=qqO em n e k1 ka' hk1 ha' d x1 hx1;have p3:=ih (s+1) (pre++x1) x2 (by simp[hp,hx1.length,qAI]) hx2;rw[qAH]at p3;rw[qBY];simp only[List.forIn_cons,qAk,aW hsz,qz8,p1,p2,qAu];exact p3
     have k0:=key len 0 [] xs (by simp) hx;rw[qAZ]at k0;rw[k0];rfl
    ·cases h
   ·cases h
end
open Go.ChangeMaps (setBlock)
section
variable {P:Program}{w:World}
def qjg{ka:Bool}{ks:List KK}{xs ys:List Value}(h1:ka=false->ks.length=1)(hx:KVl w ks xs)(hy:KVl w ks ys)(h:Hj ka xs=Hj ka ys):xs=ys:=by
 cases ka with
 |true=>simpa [Hj]using h
 | false=>
   obtain⟨k,rfl⟩:=qBl.1 (h1 rfl);obtain⟨x,rfl,_⟩:=hx.one;obtain⟨y,rfl,_⟩:=hy.one;simpa [Hj]using h
def qhe(a b:ByteArray):(a==b)=true↔a=b:=by
 rw[beq_toListBytes];simp[qBO,qCw]
def Jk{d:TypeDesc}{x y:Value}{b:Bool}(h:Instr.sameNow d x y=some b):b=true↔x=y:=by
 unfold Instr.sameNow at h;split at h
 ·split at h
  ·rename_i hk;cases h;subst hk;simp
  ·cases h
 ·cases h;simp[qhe]
 ·cases h;simp
 ·cases h
theorem Nb{d:TypeDesc}{x:Value} :∀(es:List MapEntry) (i:Nat) (r:Option (Nat×Value)),Instr.findNow d x es i=some r->
 (r=none/\∀e∈es,e.key≠x)\/ ∃j e,r=some (i+j,e.val)/\es[j]? =some e/\e.key=x
 | [],i,r,h=>by
   cases h;exact .inl ⟨rfl,λe he=>by simp at he⟩
 | e::es,i,r,h=>by
   unfold Instr.findNow at h;split at h
   ·rename_i hs;cases h;exact .inr ⟨0,e,by simp,rfl,((Jk hs).1 rfl).symm⟩
   ·rename_i hs;have hne:e.key≠x:=λe0=>by have:=(Jk hs).2 e0.symm;cases this
    rcases Nb es (i+1) r h with⟨h1,h2⟩|⟨j,e',h1,h2,h3⟩
    ·exact .inl ⟨h1,λy hy=>by
      rcases qAc.1 hy with rfl|hy
      ·exact hne
      ·exact h2 y hy⟩
    ·exact .inr ⟨j+1,e',by rw[h1,qBu,qCr 1 j],by simpa using h2,h3⟩
   ·cases h
structure KeyT (P:Program) (t:TypeId) (ka:Bool) (ks:List KK):Prop where
 c:Kx P 50 t=some ks
 a:iv P t=some ka
def CH{t:TypeId}{ka:Bool}{ks:List KK}(h:qfM P t=some (ka,ks)):KeyT P t ka ks:=by
 unfold qfM at h;simp only[qzW,qzU,qAa,qBX]at h;obtain⟨a,h1,b,h2,rfl,rfl⟩:=h;exact⟨h2,h1⟩
def KeyT.one{t:TypeId}{ka:Bool}{ks:List KK}(h:KeyT P t ka ks):ka=false->ks.length=1:=by
 obtain⟨ka',h1,h2⟩:=ye h.c;have:=h.a.symm.trans h1;cases this;exact F3 h2
def Tw(w:World)(ka:Bool)(ks:List KK)(x:Value):Prop:=∃xs,x=Hj ka xs/\KVl w ks xs
theorem Nc{t:TypeId}{ka:Bool}{ks:List KK}(ht:KeyT P t ka ks){x:Value}(hx:Tw w ka ks x):∀(es:List MapEntry) (i:Nat),(∀e∈es,Tw w ka ks e.key)->
 ∃r,(Instr.findAsking t x es i).run P w= .ok r w/\((r=none/\∀e∈es,e.key≠x)\/ ∃j e,r=some (i+j,e.val)/\es[j]? =some e/\e.key=x)
 | [],i,_=>⟨none,by simp[Instr.findAsking], .inl ⟨rfl,λe he=>by simp at he⟩⟩
 | e::es,i,hall=>by
   obtain⟨xs,rfl,hxs⟩:=id hx;obtain⟨ys,hy,hys⟩:=hall e (by simp);obtain⟨r,hr,hiff⟩:=qwF (P:=P) (w:=w) 50 t ks ka ht.c ht.a 9950 xs ys hxs hys;have hr':(Op.equal t (Hj ka xs) e.key).run P w= .ok r w:=by rw[hy];exact hr
   cases r with
   | true=>
     exact⟨some (i,e.val),by simp[Instr.findAsking,hr'], .inr ⟨0,e,by simp,rfl,by rw[hy,hiff.1 rfl]⟩⟩
   | false=>
     have hne:e.key≠Hj ka xs:=λe0=>by
      have:=hiff.2 (qjg ht.one hxs hys (by rw[<-hy,e0]));cases this
     obtain⟨r,h1,h2⟩:=Nc ht hx es (i+1) (λe he=>hall e (by simp[he]));refine⟨r,by simp[Instr.findAsking,hr',h1],?_⟩;rcases h2 with⟨h2,h3⟩|⟨j,e',h2,h3,h4⟩
     ·exact .inl ⟨h2,λy hy=>by
       rcases qAc.1 hy with rfl|hy
       ·exact hne
       ·exact h3 y hy⟩
     ·exact .inr ⟨j+1,e',by rw[h2,qBu,qCr 1 j],by simpa using h3,h4⟩
theorem SK{t:TypeId}{ka:Bool}{ks:List KK}(ht:KeyT P t ka ks){x:Value}(hx:Tw w ka ks x)(es:List MapEntry)(hall:∀e∈es,Tw w ka ks e.key):
 ∃r,(Instr.findKey t x es).run P w= .ok r w/\((r=none/\∀e∈es,e.key≠x)\/ ∃j e,r=some (j,e.val)/\es[j]? =some e/\e.key=x):=by
 obtain⟨ka',h1,h2⟩:=ye ht.c;have hu:∃d,P.underlying t=some d:=by
  have:=ht.a;unfold iv at this;split at this
  ·exact⟨_,by assumption⟩
  ·exact⟨_,by assumption⟩
  ·exact⟨_,by assumption⟩
  ·cases this
 obtain⟨d,hd⟩:=hu;cases hn:Instr.findNow d x es 0 with
 | some r=>
   refine⟨r,by simp[Instr.findKey,run_underlying hd,hn],?_⟩;simpa using Nb es 0 r hn
 | none=>
   obtain⟨r,h3,h4⟩:=Nc ht hx es 0 hall;exact⟨r,by simp[Instr.findKey,run_underlying hd,hn,h3],by simpa using h4⟩
theorem qbV{ka:Bool}{ks:List KK}(h1:ka=false->ks.length=1){x:Value}(hx:Tw w ka ks x):Instr.sameBits 10000 x x=true:=by
 have cell:∀(n:Nat) (k:KK) (x:Value),quD w k x->Instr.sameBits n x x=true:=λn k x h=>by
  cases k with
  |int k=>obtain⟨m,rfl⟩:=h;cases n<;>simp[Instr.sameBits]
  |str=>obtain⟨m,rfl⟩:=h;cases n<;>simp[Instr.sameBits,qhe]
  |bool=>obtain⟨m,rfl⟩:=h;cases n<;>simp[Instr.sameBits]
  | ptr=>
    rcases h with rfl|⟨b,o,rfl,_⟩ <;>cases n<;>simp[Instr.sameBits]
 obtain⟨xs,rfl,hxs⟩:=hx;cases ka with
 | false=>
   obtain⟨k,rfl⟩:=qBl.1 (h1 rfl);obtain⟨x,rfl,hx⟩:=hxs.one;exact cell _ _ _ hx
 | true=>
   simp only[Hj,if_true,Instr.sameBits,beq_self_eq_true,qBF];have all:∀(ks:List KK) (xs:List Value),KVl w ks xs->(xs.zip xs).all (λx=>Instr.sameBits 9999 x.1 x.2)=true:=by
    intro ks
    induction ks with
    |nil=>intro xs h;cases xs with|nil=>rfl|cons=>exact h.elim
    | cons k ks ih=>
      intro xs h;cases xs with
      |nil=>exact h.elim
      |cons x xs=>simp[cell _ _ _ h.1];simpa using ih xs h.2
   exact all ks xs hxs
def qdX{ka:Bool}{ks:List KK}(h1:ka=false->ks.length=1){x:Value}(hx:Tw w ka ks x):(Instr.keyThatStays x x).run P w= .ok x w:=by
 simp[Instr.keyThatStays,qbV h1 hx]
variable {tp I:Nat->Prop}
def qgk{k:KK}{x:Value}{d:D}(hf:qjK k d=true)(h:R tp I w x d):quD w k x:=by
 unfold qjK at hf;split at hf
 ·rename_i k k' n;have hk:k=k':=by simpa using hf
  have:=h.inv_v;subst hk;exact⟨_,this⟩
 ·exact⟨_,h.inv_v⟩
 ·exact⟨_,h.inv_v⟩
 ·rename_i cs off;cases h with
  |cptr b base _ _ f hI hz _ _ _=>exact .inr ⟨b,base+off,rfl,hz (by simpa using hf)⟩
 ·exact .inl h.inv_v
 ·cases hf
def qgj:∀{ks:List KK} {ds:List D} {xs:List Value},qjJ ks ds=true->xs.length=ds.length->(∀(k:Nat) (x:Value) (c:D),xs[k]? =some x->ds[k]? =some c->R tp I w x c)->KVl w ks xs
 | [], [],xs,_,hl,_=>by
   have:=qAN.1 hl;subst this;trivial
 | k::ks,d::ds,x::xs,h,hl,hr=>by
   simp only[qjJ,qzZ]at h;exact⟨qgk h.1 (hr 0 x d rfl rfl),qgj h.2 (by simpa using hl) λk y c h1 h2=>hr (k+1) y c h1 h2⟩
 | _::_,_::_, [],_,hl,_=>by simp at hl
 | [],_::_,_,h,_,_=>by cases h
 | _::_, [],_,h,_,_=>by cases h
def SJ{ka:Bool}{ks:List KK}{x:Value}{d:D}(hf:Wv ka ks d=true)(h:R tp I w x d):Tw w ka ks x:=by
 unfold Wv at hf;cases ka with
 | true=>
   simp only[if_true]at hf;cases d<;>simp only[rV]at hf<;>try (cases hf;done)
   obtain⟨xs,rfl,hl,hc⟩:=h.inv_agg;exact⟨xs,rfl,qgj hf hl λk y c h1 h2=>(hc k y c h1 h2).2⟩
 | false=>
   simp only[qAJ,if_false]at hf;split at hf
   ·exact⟨[x],rfl,qgk hf h,trivial⟩
   ·cases hf
theorem RV{x y:Value}{d:D}(hp:DA d=true)(hx:R tp I w x d)(hy:R tp I w y d):x=y:=by
 have one:∀(c:D),qoi c=true->∀{x y:Value},R tp I w x c->R tp I w y c->x=y:=λc hc x y h1 h2=>by
  cases c<;>first|(cases hc;done)|exact h1.inv_v.trans h2.inv_v.symm
 by_cases hag:∃cs,d= .agg cs
 ·obtain⟨cs,rfl⟩:=hag;obtain⟨xs,rfl,hl,hc⟩:=hx.inv_agg;obtain⟨ys,rfl,hl2,hc2⟩:=hy.inv_agg;have:xs=ys:=by
   refine List.ext_getElem (by omega) λi h1 h2=>?_
   have hi:i<cs.length:=by omega
   have hv:qoi cs[i]=true:=qz4.1 hp _ (by simp[D.cells]);exact one _ hv (hc i _ _ (qzX h1) (qzX hi)).2 (hc2 i _ _ (qzX h2) (qzX hi)).2
  rw[this]
 ·have hd:d.cells=[d]:=by cases d<;>first|rfl|exact absurd ⟨_,rfl⟩ hag
  rw[DA,hd]at hp;exact one d (by simpa using hp) hx hy
def R.ent{a b:Value}{k v:D}(h:R tp I w (.tuple #[a,b]) (.tup [k,v])):R tp I w a k/\R tp I w b v:=by
 generalize hq:Value.tuple #[a,b]=q at h;cases h with
 | tup xs ds hl h=>
   have hx:xs=[a,b]:=by
    injection hq with hq;have:=congrArg Array.toList hq;simpa using this.symm
   subst hx;exact⟨h 0 a k rfl rfl,h 1 b v rfl rfl⟩
def GH{ka:Bool}{ks:List KK}{d:D}(h:Zg ka ks d=true):∃k v,d= .tup [k,v]/\Wv ka ks k=true:=by
 unfold Zg at h;split at h
 ·exact⟨_,_,rfl,h⟩
 ·cases h
def R.mk_ent{a b:Value}{k v:D}(h1:R tp I w a k)(h2:R tp I w b v):R tp I w (.tuple #[a,b]) (.tup [k,v]):=
 .tup [a,b] [k,v] rfl λi x c hx hc=>by
  match i with
  | 0=>cases hx;cases hc;exact h1
  | 1=>cases hx;cases hc;exact h2
  |i+2=>simp at hx
end
section
variable {P:Program}{o:Oper}{a:Act}{E:AD}{tp I:Nat->Prop}{H:ab}{w:World}{σ:Sg}
theorem qaC{q:Value}{d:D}{Hr:ab}{K:List D->Prop}(hx:R tp I w q d)(hle:∀i r,Hr i=some r->H i=some r)(hsat:∀i r,H i=some r->ResOk (R tp I w) w r)(hv:Gs d Hr K):
 ∃es,K es/\((q= .map none/\es=[])\/ ∃b ents clock,q= .map (some b)/\w.heap[b]? =some (.map ents clock)/\pT ents clock/\Cs (R tp I w) ents es):=by
 unfold Gs at hv;split at hv
 ·rename_i es;cases hx with
  |nomp=>exact⟨[],hv, .inl ⟨rfl,rfl⟩⟩
  |mp b ents clock _ hI hh hl hb h=>exact⟨es,hv, .inr ⟨b,ents,clock,rfl,hh,hb,hl,h⟩⟩
 ·exact⟨[],hv, .inl ⟨hx.inv_v,rfl⟩⟩
 ·rename_i id x;split at hv
  ·rename_i x' es hH;obtain⟨rfl,hk⟩:=hv;obtain⟨b,ents,clock,rfl,h1,h2,h3⟩:=hsat _ _ (hle _ _ hH);cases hx;exact⟨es,hk, .inr ⟨b,ents,clock,rfl,h1,h2,h3⟩⟩
  ·exact hv.elim
 ·exact hv.elim
def B3{ents:Array MapEntry}{es:List D}(h:Cs (R tp I w) ents es){j:Nat}{e:MapEntry}(he:ents[j]? =some e):∃c,es[j]? =some c/\R tp I w (.tuple #[e.key,e.val]) c:=by
 have hj:j<es.length:=by rw[<-h.1];exact(qz3.1 he).1
 exact⟨es[j],qzX hj,h.2 j e _ he (qzX hj)⟩
def SR{ents:Array MapEntry}{es:List D}{ka:Bool}{ks:List KK}(h:Cs (R tp I w) ents es)(hf:es.all (Zg ka ks)=true):∀e∈ents.toList,Tw w ka ks e.key:=by
 intro e he;obtain⟨j,hj⟩:=qAp.1 he;have hj':ents[j]? =some e:=by simpa using hj
 obtain⟨c,hc,hR⟩:=B3 h hj';obtain⟨k,v,rfl,hk⟩:=GH (qz4.1 hf c (qzY hc));exact SJ hk hR.ent.1
theorem qbt{t:TypeId}{z:List Value}{agg:Bool}(hz:fp P t=some z)(hag:KN P t agg=true):∃zv,(zeroValue t).run P w= .ok zv w/\R tp I w zv (Tz agg z):=by
 obtain⟨i,zv,hi,hzv,hzc,hsz,hz1,hz2⟩:=ek hz;refine⟨zv,by simp[zeroValue,typeInfo,hi,hzv],?_⟩;have hcs:=lE (tp:=tp) (I:=I) (w:=w) hz2 hz1;simp only[KN,hi,qAh,hzv]at hag;split at hag
 ·rename_i cs hcs';cases hcs';subst hag;simp only[Tz,if_true];rw[<-hzc];have:(Value.agg cs)= .agg cs.toList.toArray:=by simp
  rw[this];have hce:(Value.agg cs).cells.toList=cs.toList:=rfl;rw[<-this,hce];rw[hce]at hzc;rw[<-hzc]at hcs hz1;have h2:=R.agg (tp:=tp) (I:=I) (w:=w) cs.toList (cs.toList.map qH) (by simp) (λx hx=>qz4.1 hz1 x hx) (λk x c h1 h2=>(hcs k x c h1 h2).2);simpa using h2
 ·rename_i x hne hx;cases hx;simp only[qzZ,qCa]at hag;obtain⟨rfl,h1⟩:=hag;have hc1:zv.cells= #[zv]:=by cases zv<;>first|rfl|(simp[Value.oneCell']at h1)
  rw[hc1]at hzc;subst hzc;have:=hcs 0 zv (qH zv) rfl rfl;simpa [Tz]using this.2
 ·cases hag
theorem qcL{t kt et:TypeId}{x k:Operand}{ok agg ka:Bool}{ks:List KK}{z:List Value}{K:D->Prop}(ho:o.op= .lookup t x k ok)(ht:P.underlying t=some (.map kt et))(hkt:KeyT P kt ka ks)(hz:fp P et=some z)(hag:KN P et agg=true)
 (hx:R tp I w (a.eval x) (ev σ x)) (hk:R tp I w (a.eval k) (ev σ k)) {Hr:ab} (hle:∀i r,Hr i=some r->H i=some r) (hsat:∀i r,H i=some r->ResOk (R tp I w) w r)
 (hv:aj (.m (.look ok agg ka ks z) [x,k]) σ Hr K):Good P o a tp I w K:=by
 simp only[aj,yd,qAo,qBb]at hv;obtain⟨es,⟨hall,hfk,hfound,hno⟩,hm⟩:=qaC hx hle hsat hv;have hkv:=SJ hfk hk;obtain⟨zv,hz1,hz2⟩:=qbt (P:=P) (w:=w) (tp:=tp) (I:=I) hz hag;have hck:∀em,(Instr.checkKey em 10000 kt (a.eval k)).run P w= .ok () w:=λem=>by
  obtain⟨xs,h1,h2⟩:=hkv;rw[h1];exact qqO em 50 kt ks ka hkt.c hkt.a 9950 xs h2
 have main:∀(ents:Array MapEntry),(∀e∈ents.toList,Tw w ka ks e.key)->(∀(j:Nat) (e:MapEntry),ents[j]? =some e->∃c,es[j]? =some c/\R tp I w (.tuple #[e.key,e.val]) c)->
  (∀c∈es,∃e∈ents.toList,R tp I w (.tuple #[e.key,e.val]) c)->
  (∀r:Option (Nat×Value),(Instr.findKey kt (a.eval k) ents.toList).run P w= .ok r w->(execOp a.eval o).run P w= .ok (.value (match r with|some (_,v)=>if ok then .tuple #[v, .bool true]else v|none=>if ok then .tuple #[zv, .bool false]else zv)) w)->Good P o a tp I w K:=by
  intro ents h1 h2 h3 hrun;obtain⟨r,hr,hcase⟩:=SK (P:=P) hkt hkv ents.toList h1;have hex:=hrun r hr;rcases hcase with⟨rfl,hne⟩|⟨j,e,rfl,hj,hke⟩
  ·refine⟨_,qsN ok (Tz agg z) false,hex,?_,hno λhp v hmem=>?_⟩
   ·cases ok with
    |true=>exact R.mk_ent hz2 (.bool _)
    |false=>exact hz2
   ·obtain⟨e,he,hR⟩:=h3 _ hmem;exact hne e he (RV hp hR.ent.1 hk)
  ·obtain⟨c,hc,hR⟩:=h2 j e (by simpa using hj);obtain⟨k',v',rfl,_⟩:=GH (qz4.1 hall c (qzY hc));refine⟨_,qsN ok v' true,hex,?_,hfound k' v' (qzY hc) ⟨tp,I,w,a.eval k,hk,by rw[<-hke];exact hR.ent.1⟩⟩;cases ok with
   |true=>exact R.mk_ent hR.ent.2 (.bool _)
   |false=>exact hR.ent.2
 rcases hm with⟨hq,rfl⟩|⟨b,ents,clock,hq,hb,hbo,hents⟩
 ·refine main #[] (λe he=>by simp at he) (λj e he=>by simp at he) (λc hc=>by simp at hc) λr hr=>?_
  have hr':(Instr.findKey kt (a.eval k) []).run P w= .ok r w:=hr;simp only[execOp,ho,hq,Instr.lookup,qAk,run_underlying ht,qz8,qAu,hck,hr'];rcases r with _|⟨i,v⟩ <;>cases ok<;>simp[hz1]
 ·refine main ents (SR hents hall) (λj e he=>B3 hents he) (λc hc=>?_) λr hr=>?_
  ·obtain⟨j,hj⟩:=qAp.1 hc;have hlt:j<ents.size:=by rw[hents.1];exact(qzV.1 hj).1
   exact⟨ents[j],by simp,hents.2 j _ c (by simp[hlt]) hj⟩
  ·simp only[execOp,ho,hq,Instr.lookup,qAk,run_underlying ht,qz8,qAu,hck,hr,getObj,Sem.run,hb];rcases r with _|⟨i,v⟩ <;>cases ok<;>simp[hz1]
theorem qcJ{t kt et:TypeId}{c:Call}{x:Operand}{K:D->Prop}(ho:o.op= .call c)(hc:c.callee= .builtin .len)(hat:c.argTypes.toList=[t])(hargs:c.args.toList=[x])(ht:P.underlying t=some (.map kt et))
 (hx:R tp I w (a.eval x) (ev σ x)) {Hr:ab} (hle:∀i r,Hr i=some r->H i=some r) (hsat:∀i r,H i=some r->ResOk (R tp I w) w r)
 (hv:aj (.m .len [x]) σ Hr K):Good P o a tp I w K:=by
 obtain⟨cl,⟨args⟩,⟨ats⟩⟩:=c;simp only at hat hargs hc;subst hat;subst hargs;subst hc;simp only[aj,yd,qAo,qBb]at hv;obtain⟨es,hk,hm⟩:=qaC hx hle hsat hv;rcases hm with⟨hq,rfl⟩|⟨b,ents,clock,hq,hb,hbo,hents⟩
 ·exact⟨_,_,by simp[execOp,ho,resolve,invoke,builtin,hq,Builtin.len_,run_underlying ht,goInt], .int _ _,hk⟩
 ·refine⟨.int .i64 es.length,_,?_, .int _ _,hk⟩;rw[<-hents.1];simp[execOp,ho,resolve,invoke,builtin,hq,Builtin.len_,run_underlying ht,goInt,getObj,Sem.run,hb]
theorem qaB{m:Option Nat}{since last:Nat}{seen:Array Nat}{cur ds:List D}(h:R tp I w (O3 m since seen last) (.mst cur ds)):
 (m=none/\cur=[]/\ds=[])\/ ∃b es clock ce,m=some b/\I b/\w.heap[b]? =some (.map es clock)/\pT es clock/\(∀e∈es.toList,e.born<since)/\since<=last/\since<=clock/\(kT es seen).length=ds.length/\
   (cur=[]\/(cur.length=1/\seen.back? =some ce.born/\ce∈es.toList/\last=clock))/\(∀c,cur=[c]->R tp I w (.tuple #[ce.key,ce.val]) c)/\∀(k:Nat) (e:MapEntry) (c:D),(kT es seen)[k]? =some e->ds[k]? =some c->R tp I w (.tuple #[e.key,e.val]) c:=by
 generalize hq:O3 m since seen last=q at h;have seenEq:∀s s':Array Nat,(s.map λ(n:Nat)=>Value.int .i64 n)=(s'.map λ(n:Nat)=>Value.int .i64 n)->s=s':=λs s' h=>by
  have:=congrArg Array.toList h;rw[qBM,qBM]at this;have h2:=List.map_inj_right (f:=λ(n:Nat)=>Value.int .i64 n) (λx y hxy=>by injection hxy with _ h;exact Int.ofNat.inj h) |>.1 this
  exact qBy.1 h2
 cases h with
 | nomst s l sn=>
   simp only[O3,qCx]at hq;have:=congrArg Array.toList hq;simp only[qAA,Value.map.injEq]at this;exact .inl ⟨this.1,rfl,rfl⟩
 | mst b es clock s l sn ce _ _ hI hh hb hs hsl hl hc hcr h=>
   simp only[O3,qCx]at hq;have:=congrArg Array.toList hq;simp only[qAA,Value.map.injEq,Value.int.injEq,Value.agg.injEq,true_and,and_true,Int.ofNat_inj]at this;obtain⟨rfl,h1,h2,h3⟩:=this;have h1':since=s:=by simpa using h1
   have h3':last=l:=by simpa using h3
   have h2':=seenEq _ _ h2;subst h1';subst h3';subst h2';exact .inr ⟨b,es,clock,ce,rfl,hI,hh,hb,hs,hsl.1,hsl.2,hl,hc,hcr,h⟩
theorem Y9{x:Operand}{K:D->Prop}(ho:o.op= .entry x)(hx:R tp I w (a.eval x) (ev σ x)){Hr:ab}(hle:∀i r,Hr i=some r->H i=some r)(hsat:∀i r,H i=some r->ResOk (R tp I w) w r)
 (hv:aj (.m .entry [x]) σ Hr K):Good P o a tp I w K:=by
 simp only[aj,yd,qAo,qBb]at hv;generalize hq:a.eval x=q at hx;split at hv<;>try (exact hv.elim)
 ·rename_i h1 h2;cases h1
 ·rename_i h1 h2;cases h1
 ·rename_i ds id b off _ hds;simp only[qAA,and_true]at hds;rw[hds]at hx;obtain⟨rfl,hv⟩:=hv;split at hv
  ·rename_i b' e left hH;obtain⟨rfl,hk⟩:=hv;cases hx;obtain⟨m,since,last,seen,g1,g2⟩:=hsat _ _ (hle _ _ hH);rcases qaB g2 with⟨_,h,_⟩|⟨bm,es,clock,ce,rfl,hI,hb,hbo,hs,hsl,hsc,hl,hc,hcr,hle2⟩
   ·cases h
   ·rcases hc with h|⟨_,hbk,hce,rfl⟩
    ·cases h
    ·have hf:es.find? (·.born==ce.born)=some ce:=by rw[<-Array.find?_toList];exact find_born ce es.toList hbo.2 hce
     refine⟨.tuple #[ce.key,ce.val],e,?_,hcr e rfl,hk⟩;simp[execOp,ho,hq,Instr.entry,getObj,Sem.run,g1,hb,hbk,hf]
  ·rename_i b' m xm clk seen hH;obtain⟨rfl,hv⟩:=hv;unfold Du at hv;split at hv
   ·rename_i x' es st clk' hM;obtain⟨rfl,rfl,hv⟩:=hv;split at hv
    ·rename_i s hs;obtain⟨hmem,hK⟩:=hv;cases hx;obtain⟨mb,rfl,g1⟩:=hsat _ _ (hle _ _ hH);obtain⟨bm,ents,hbm,hb,hbo,rfl,hents⟩:=hsat _ _ (hle _ _ hM);cases hbm;obtain⟨ce,hce,rfl⟩:=qz1.1 hmem;have hbk:seen.toArray.back? =some ce.born:=by simpa using hs
     have hf:ents.find? (·.born==ce.born)=some ce:=by rw[<-Array.find?_toList];exact find_born ce ents.toList hbo.2 hce
     obtain⟨j,hj⟩:=qAp.1 hce;have hj':ents[j]? =some ce:=by simpa using hj
     obtain⟨c,hc,hR⟩:=B3 hents hj';refine⟨.tuple #[ce.key,ce.val],c,?_,hR,hK j c (by rw[qz7,hj];rfl) hc⟩;simp[execOp,ho,hq,Instr.entry,getObj,Sem.run,g1,hb,hbk,hf]
    ·exact hv.elim
   ·exact hv.elim
  ·exact hv.elim
 ·rename_i h1 h2;cases h1
theorem qcP{t el:TypeId}{len sz:Nat}{x i:Operand}{K:D->Prop}(ho:o.op= .indexAddr t x i)(ht:P.underlying t=some (.array len el))(hs:dn P el=some sz)
 (hx:R tp I w (a.eval x) (ev σ x)) (hi:R tp I w (a.eval i) (ev σ i)) {Hr:ab} (hv:aj (.m (.aidx len sz) [x,i]) σ Hr K):Good P o a tp I w K:=by
 simp only[aj,qAo,qBb]at hv;generalize hid:ev σ i=id at hi hv;have main:∀(kk:IntKind) (k:Int),a.eval i= .int kk k->0<=k->k<len->qgn (k.toNat*sz) (ev σ x) K->Good P o a tp I w K:=by
  intro kk k hk h0 h1 hm;refine uH (d:=k.toNat*sz) (x:=x) (λb off hb=>?_) hx (H:=λ_=>none) hm;simp[execOp,ho,hk,hb,Instr.indexAt,asIntOf,run_underlying ht,Instr.sureAddr,h0,h1,aW hs,lD]
 unfold yd at hv;split at hv<;>try (exact hv.elim)
 all_goals first
  |(rename_i h _;cases h;done)
  |skip
 rename_i heq1 heq2;cases heq1;simp only[qAA,and_true]at heq2;obtain⟨rfl,rfl⟩:=heq2;exact main _ _ hi.inv_v hv.1 hv.2.1 hv.2.2
def tU{w:World}{b:Nat}{o0:Obj}(o:Obj)(hb:w.heap[b]? =some o0):(setBlock w b o).heap[b]? =some o:=by
 have hlt:=(qz3.1 hb).1;simp[setBlock,hlt]
def Sy{w:World}{b c:Nat}(o:Obj)(h:c≠b):(setBlock w b o).heap[c]? =w.heap[c]?:=by
 have h':b≠c:=λe=>h e.symm
 simp[setBlock,qBj,h']
def yf(w:World)(b:Nat)(o:Obj):GrB w (setBlock w b o) (some b):=
 ⟨⟨rfl,rfl,rfl,by simp[setBlock],λk _ hk=>Sy o (λe=>hk (by rw[e]))⟩,qz2 _⟩
def qpy{t ty:Nat}{K:D->ab->Prop}(hst:StW E tp H w)(ho:o.op= .makeMap ty none)(hv:∀x,K (.own t x) (ai H t (some (.mrow x [])))):dB P o a E tp H w K:=by
 refine⟨_, .map (some w.heap.size), .own t (.map (some w.heap.size)),_,w.alloc (.map #[] 0),?_, .inl rfl,oz (r':= .mrow (.map (some w.heap.size)) []) hst (λb hb=>by cases hb;rfl) (λm=>?_), .own _ _ rfl,hv _⟩
 ·simp only[execOp,ho,qBg,qAk];rfl
 ·exact⟨w.heap.size, #[],0,rfl,heap_alloc_new _ _,⟨λe he=>by simp at he,by simp⟩,rfl,λk e c he=>by simp at he⟩
def Xn{es:Array MapEntry}{clock i:Nat}{k v:Value}(h:pT es clock):pT (es.modify i λe=>{ e with key:=k,val:=v }) clock:=by
 have hm:((es.modify i λe=>{ e with key:=k,val:=v }).toList.map (·.born))=es.toList.map (·.born):=by
  refine qAO λj=>?_
  rw[qz7,qz7,qAn,qAn,qBK];by_cases hij:i=j
  ·subst hij;simp only[if_true,Option.map_map];cases es[i]? <;>rfl
  ·rw[if_neg hij]
 refine⟨λe he=>?_,by rw[hm];exact h.2⟩;have:e.born∈ (es.modify i λe=>{ e with key:=k,val:=v }).toList.map (·.born):=qz1.2 ⟨e,he,rfl⟩;rw[hm]at this;obtain⟨e',he',hb⟩:=qz1.1 this;rw[<-hb];exact h.1 e' he'
def qc7{es:Array MapEntry}{clock:Nat}{k v:Value}(h:pT es clock):pT (es.push { key:=k,val:=v,born:=clock }) (clock+1):=by
 refine⟨λe he=>?_,?_⟩
 ·rw[qCc,qz5,qA9]at he;rcases he with he|rfl
  ·exact Nat.lt_succ_of_lt (h.1 e he)
  ·exact Nat.lt_succ_self _
 ·rw[qCc,qBt,qBT];refine⟨h.2,by simp,λx hx y hy=>?_⟩;obtain⟨e,he,rfl⟩:=qz1.1 hx;simp at hy;subst hy;have:=h.1 e he;omega
theorem qfe{ty kt et:TypeId}{x k v:Operand}{ka:Bool}{ks:List KK}{K:D->ab->Prop}(hst:StW E tp H w)(ho:o.op= .mapUpdate ty x k v\/o.op= .insert ty x k v)(ht:P.underlying ty=some (.map kt et))(hkt:KeyT P kt ka ks)
 (hx:R tp (bh E.O tp H w) w (a.eval x) (ev σ x)) (hk:R tp (bh E.O tp H w) w (a.eval k) (ev σ k)) (hvv:R tp (bh E.O tp H w) w (a.eval v) (ev σ v))
 (hv:bk (.m (.upd ka ks) [x,k,v]) o.dst σ H K):dB P o a E tp H w K:=by
 simp only[bk,qAo,qBb]at hv;generalize hq:a.eval x=q at hx;generalize hxd:ev σ x=xd at hx hv;cases xd<;>try (exact hv.elim)
 ·rename_i id xv;cases hx;simp only[gM]at hv;split at hv
  ·rename_i x' es hH;obtain⟨rfl,hall,hfk,hup,hno⟩:=hv;have hsat:∀i r,H i=some r->ResOk (R tp (bh E.O tp H w) w) w r:=hst.sat.ok;obtain⟨b,ents,clock,rfl,hb,hbo,hents⟩:=hsat _ _ hH;have hkv:=SJ hfk hk;have hck:(Instr.checkKey false 10000 kt (a.eval k)).run P w= .ok () w:=by
    obtain⟨xs,h1,h2⟩:=hkv;rw[h1];exact qqO false 50 kt ks ka hkt.c hkt.a 9950 xs h2
   obtain⟨r,hr,hcase⟩:=SK (P:=P) hkt hkv ents.toList (SR hents hall);have hset:∀ob:Obj,(setObj b ob).run P w= .ok () (setBlock w b ob):=λob=>by simp[setObj,Sem.run,hb,setBlock]
   have sC:∀(ents':Array MapEntry) (clock':Nat) (es':List D),(Instr.mapUpdate ty (.map (some b)) (a.eval k) (a.eval v)).run P w= .ok () (setBlock w b (.map ents' clock'))->pT ents' clock'->
    (∀(Q:Value->D->Prop),(∀y d,R tp (bh E.O tp H w) w y d->Q y d)->(∀(k' v':Value) (c d:D),Q k' c->Q v' d->Q (.tuple #[k',v']) (.tup [c,d]))->Cs Q ents' es')->K .undef (ai H id (some (.mrow (.map (some b)) es')))->dB P o a E tp H w K:=by
    intro ents' clock' es' hrun hbo' hents' hK;have hm:=hst.own id (some (.mrow (.map (some b)) es')) (yf w b (.map ents' clock')) (λc hc=>by cases hc;exact⟨_,hH,rfl⟩) (λr c h1 h2=>by cases h1;cases h2;exact .inr ⟨_,hH,rfl⟩) (λm r h1=>by
     cases h1;exact⟨b,ents',clock',rfl,tU _ hb,hbo',hents' _ m λk' v' c d h1 h2=>R.mk_ent h1 h2⟩)
    refine⟨.skip,Go.undef, .undef,_,_,?_, .inr ⟨rfl,rfl⟩,hm, .undef,hK⟩;rcases ho with ho|ho<;>simp[execOp,ho,hq,hrun]
   rcases hcase with⟨rfl,hne⟩|⟨j,e,rfl,hj,hke⟩
   ·refine sC (ents.push { key:=a.eval k,val:=a.eval v,born:=clock }) (clock+1) (es++ [.tup [ev σ k,ev σ v]]) ?_ (qc7 hbo) (λQ hQ hT=>⟨by simp[hents.1],λi e c he hc=>?_⟩) (hno λhp v' hmem=>?_)
    ·simp[Instr.mapUpdate,run_underlying ht,getObj,Sem.run,hb,hck,hr,hset]
    ·rw[Array.getElem?_push]at he;split at he
     ·rename_i hi;cases he;rw[qz9 (by rw[<-hents.1];omega)]at hc;rw[<-hents.1,hi]at hc;simp at hc;subst hc;exact hT _ _ _ _ (hQ _ _ hk) (hQ _ _ hvv)
     ·have hlt:=(qz3.1 he).1;rw[qAe (by rw[<-hents.1];exact hlt)]at hc;exact hQ _ _ (hents.2 i e c he hc)
    ·obtain⟨i,hi⟩:=qAp.1 hmem;have hlt:i<ents.size:=by rw[hents.1];exact(qzV.1 hi).1
     have hR:=hents.2 i ents[i] _ (by simp[hlt]) hi;exact hne ents[i] (by simp) (RV hp hR.ent.1 hk)
   ·have hj':ents[j]? =some e:=by simpa using hj
    obtain⟨c,hc,hR⟩:=B3 hents hj';obtain⟨k',v',rfl,_⟩:=GH (qz4.1 hall c (qzY hc));have hjl:j<es.length:=(qzV.1 hc).1;have hsplit:es=es.take j++D.tup [k',v']::es.drop (j+1):=by
     have h1:=(qzV.1 hc).2;rw[<-h1,<-qAQ hjl,qAz]
    have hset2:es.take j++D.tup [ev σ k,ev σ v]::es.drop (j+1)=es.set j (.tup [ev σ k,ev σ v]):=by
     rw[qBV,if_pos hjl]
    have hK:=hup _ k' v' _ hsplit ⟨tp,bh E.O tp H w,w,a.eval k,hk,by rw[<-hke];exact hR.ent.1⟩;rw[hset2]at hK;refine sC (ents.modify j λe=>{ e with key:=a.eval k,val:=a.eval v }) clock (es.set j (.tup [ev σ k,ev σ v])) ?_ (Xn hbo) (λQ hQ hT=>⟨by simp[hents.1],λi e2 c2 he hc2=>?_⟩) hK
    ·have hst2:(Instr.keyThatStays e.key (a.eval k)).run P w= .ok (a.eval k) w:=by rw[hke];exact qdX hkt.one hkv
     simp[Instr.mapUpdate,run_underlying ht,getObj,Sem.run,hb,hck,hr,hset,hj',hst2]
    ·rw[qBK]at he;by_cases hij:j=i
     ·subst hij;rw[if_pos rfl,hj']at he;cases he;rw[qBm hjl]at hc2;cases hc2;exact hT _ _ _ _ (hQ _ _ hk) (hQ _ _ hvv)
     ·rw[if_neg hij]at he;rw[List.getElem?_set_ne hij]at hc2;exact hQ _ _ (hents.2 i e2 c2 he hc2)
  ·exact hv.elim
def qjf{b:Nat}{ents:Array MapEntry}{clock:Nat}{es:List D}(hI:I b)(hb:w.heap[b]? =some (.map ents clock))(hbo:pT ents clock)(hents:Cs (R tp I w) ents es):R tp I w (O3 (some b) clock #[] clock) (.mst [] es):=by
 have hl:kT ents #[]=ents.toList:=by simp[kT]
 refine .mst b ents clock clock clock #[] default [] es hI hb hbo hbo.1 ⟨qz2 _,qz2 _⟩ (by rw[hl,qAi];exact hents.1) (.inl rfl) (λc h=>by cases h) (λk e c he hc=>?_);rw[hl,qAn]at he;exact hents.2 k e c he hc
theorem qmp{t ty kt et:TypeId}{x:Operand}{K:D->ab->Prop}(hst:StW E tp H w)(ho:o.op= .range ty x)(ht:P.underlying ty=some (.map kt et))(hx:R tp (bh E.O tp H w) w (a.eval x) (ev σ x))(hd:o.dst=some t)
 (hv:bk (.m .rng [x]) o.dst σ H K):dB P o a E tp H w K:=by
 simp only[bk,gM,qAo,qBb,hd]at hv;generalize hq:a.eval x=q at hx;have sC:∀(m:Option Nat) (clock:Nat) (es:List D),(Instr.range ty q).run P w= .ok (.pointer (some ⟨w.heap.size,0,none⟩)) (w.alloc (.mapIter m clock #[] clock))->(∀(I':Nat->Prop) (w':World),(∀y d,R tp (bh E.O tp H w) w y d->R tp I' w' y d)->R tp I' w' (O3 m clock #[] clock) (.mst [] es))->
  (∀b,K (.bptr t b 0) (ai H t (some (.miter b [] es))))->dB P o a E tp H w K:=by
  intro m clock es hrun hR hK;refine⟨_, .pointer (some ⟨w.heap.size,0,none⟩), .bptr t w.heap.size 0,_,w.alloc (.mapIter m clock #[] clock),?_, .inl rfl,oz (r':= .miter w.heap.size [] es) hst (λb hb=>by cases hb;rfl) (λmv=>⟨m,clock,clock, #[],heap_alloc_new _ _,hR _ _ mv⟩), .bptr _ _ _,hK _⟩;simp only[execOp,ho,hq,qAk,hrun,qz8,qAu]
 split at hv
 ·rename_i es e1;rw[e1]at hx;cases hx with
  |nomp=>exact sC none 0 [] (by simp[run_range_nilMap w ty kt et ht]) (λI' w' _=> .nomst _ _ _) hv
  | mp b ents clock _ hI hh hl hb h=>
    exact sC (some b) clock es (by simp[run_range_map w ty kt et b ents clock ht hh]) (λI' w' mv=>mv _ _ (qjf hI hh hb ⟨hl,h⟩)) hv
 ·rename_i e1;rw[e1]at hx;have:=hx.inv_v;subst this;exact sC none 0 [] (by simp[run_range_nilMap w ty kt et ht]) (λI' w' _=> .nomst _ _ _) hv
 ·rename_i id xv e1;rw[e1]at hx;cases hx;unfold Jp at hv;split at hv
  ·rename_i x' es hH;obtain⟨rfl,hK⟩:=hv;obtain⟨b,ents,clock,rfl,h1,h2,h3⟩:=hst.sat.ok _ _ hH;have hm1:=hst.own id (some (.raw (.mrs (.map (some b)) es (ents.toList.map (·.born)) clock))) (ga w none) (λc hc=>by cases hc) (λr c k1 k2=>by cases k1;exact .inr ⟨_,hH,k2⟩) (λmv r k1=>by
    cases k1;exact⟨b,ents,rfl,h1,h2,rfl,h3.1,λk e c he hc=>mv _ _ (h3.2 k e c he hc)⟩)
   have hm2:=oz (t:=t) (ob:= .mapIter (some b) clock #[] clock) (r':= .raw (.mit w.heap.size id (.map (some b)) clock [])) hm1.1 (λc hc=>by cases hc;rfl) (λmv=>⟨b,rfl,heap_alloc_new _ _⟩);refine⟨_, .pointer (some ⟨w.heap.size,0,none⟩), .bptr t w.heap.size 0,_,w.alloc (.mapIter (some b) clock #[] clock),?_, .inl rfl,⟨hm2.1,λy d h=>hm2.2 _ _ (hm1.2 _ _ h)⟩, .bptr _ _ _,hK w.heap.size _ clock ⟨by rw[qAs,qAi];exact h3.1,h2.2,λs hs=>?_⟩⟩
   ·simp only[execOp,ho,hq,qAk,run_range_map w ty kt et b ents clock ht h1,qz8,qAu]
   ·obtain⟨e,he,rfl⟩:=qz1.1 hs;exact h2.1 e he
  ·exact hv.elim
 ·exact hv.elim
def UN{α:Type}{l:List α}{j:Nat}{x:α}(h:l[j]? =some x):l=l.take j++x::l.drop (j+1):=by
 have hj:=(qzV.1 h).1;have h1:=(qzV.1 h).2;rw[<-h1,<-qAQ hj,qAz]
def qci{α β:Type}{f:α->β}{l1 l2:List α}{x:α}(h:((l1++x::l2).map f).Nodup):∀y∈l1++l2,f y≠f x:=by
 rw[qBt,qAo,qBT]at h;obtain⟨_,h2,h3⟩:=h;intro y hy e;rcases qz5.1 hy with hy|hy
 ·exact h3 (f y) (qz1.2 ⟨y,hy,rfl⟩) (f x) (by simp) e
 ·exact(qA3.1 h2).1 (qz1.2 ⟨y,hy,e⟩)
theorem qcy{es:Array MapEntry}{seen:Array Nat}{l1 l2:List MapEntry}{e:MapEntry}(hn:(es.toList.map (·.born)).Nodup)(h:kT es seen=l1++e::l2):kT es (seen.push e.born)=l1++l2:=by
 have hnl:((kT es seen).map (·.born)).Nodup:=by
  refine List.Nodup.sublist (List.Sublist.map _ qCo) hn
 rw[h]at hnl;have hne:=qci hnl;have h2:kT es (seen.push e.born)=(kT es seen).filter λy=>!(y.born==e.born):=by
  simp only[kT,List.filter_filter];refine List.filter_congr λy _=>?_
  rw[Array.contains_push];cases seen.contains y.born<;>cases hh:(y.born==e.born)<;>simp
 rw[h2,h,qBp,qBc];have he:(!(e.born==e.born))=false:=by simp
 rw[he];simp only[qAJ,if_false];rw[<-qBp];exact qBE.2 λy hy=>by simpa using hne y hy
theorem qi6{x:Operand}{K:D->ab->Prop}(hst:StW E tp H w)(ho:o.op= .next x false)(hx:R tp (bh E.O tp H w) w (a.eval x) (ev σ x))(hv:bk (.m .next [x]) o.dst σ H K):dB P o a E tp H w K:=by
 simp only[bk,qAo,qBb]at hv;generalize hq:a.eval x=q at hx;generalize hxd:ev σ x=xd at hx hv;cases xd<;>try (exact hv.elim)
 rename_i id b off;simp only[gM]at hv;obtain⟨rfl,hv⟩:=hv;cases hx;split at hv
 ·rename_i b' cur left hH;obtain⟨rfl,h1,h2⟩:=hv;obtain⟨m,since,last,seen,g1,g2⟩:=hst.sat.ok id _ hH;have over:(Instr.next (.pointer (some ⟨b',0,none⟩)) false o.type).run P w= .ok (.tuple #[.bool false]) w->left=[]->dB P o a E tp H w K:=λhrun hl=>
   ⟨_,_,_,_,w,by simp only[execOp,ho,hq,qAk,hrun,qz8,qAu], .inl rfl,⟨hst,λy e h=>h⟩, .tup [.bool false] [.v (.bool false)] rfl (λk y c h1 h2=>by
    match k with
    | 0=>simp at h1 h2;subst h1;subst h2;exact .bool _
    |k+1=>simp at h1),h1 hl⟩
  rcases qaB g2 with⟨rfl,_,hl⟩|⟨bm,es,clock,ce,rfl,hI,hb,hbo,hs,hsl,hsc,hl,hc,hcr,hle2⟩
  ·exact over (by simp[Instr.next,getObj,Sem.run,g1]) hl
  ·rcases run_next_at (P:=P) w o.type b' bm since last seen es clock g1 hb hs hsl with⟨h0,hrun⟩|⟨e,he,w1,hw1,hrun⟩
   ·have:(kT es seen).length=0:=by
     have h3:(leftOf es seen).toList=kT es seen:=by simp[leftOf,kT]
     rw[<-h3,qAi];exact h0
    exact over hrun (qAN.1 (by omega))
   ·have h3:(leftOf es seen).toList=kT es seen:=by simp[leftOf,kT]
    rw[h3]at he;obtain⟨j,hj⟩:=qAp.1 he;have hjl:j<left.length:=by rw[<-hl];exact(qzV.1 hj).1
    have hd:left[j]? =some left[j]:=qzX hjl;have hR:=hle2 j e _ hj hd;have hsp:=UN hj;have hds:=UN hd;have hpush:=qcy hbo.2 hsp;have hgr:GrB w (setBlock w1 b' (.mapIter (some bm) since (seen.push e.born) clock)) (some b'):=by
     rcases hw1 with rfl|rfl
     ·exact yf _ _ _
     ·have:=yf w.drew b' (.mapIter (some bm) since (seen.push e.born) clock);exact⟨⟨rfl,rfl,rfl,this.size,this.block⟩,qBe _⟩
    have hb1:(setBlock w1 b' (.mapIter (some bm) since (seen.push e.born) clock)).heap[b']? =some (.mapIter (some bm) since (seen.push e.born) clock):=by
     rcases hw1 with rfl|rfl
     ·exact tU _ g1
     ·exact tU (w:=w.drew) _ g1
    have hlen:(left.take j++left.drop (j+1)).length=((kT es seen).take j++ (kT es seen).drop (j+1)).length:=by
     simp only[qAm,qAq,qA8,hl]
    have hgood:R tp (bh E.O tp H w) w (O3 (some bm) since (seen.push e.born) clock) (.mst [left[j]] (left.take j++left.drop (j+1))):=by
     refine .mst bm es clock since clock (seen.push e.born) e _ _ hI hb hbo hs ⟨hsc,hsc⟩ (by rw[hpush,hlen]) (.inr ⟨rfl,by simp,?_,rfl⟩) (λc hc=>by cases hc;exact hR) (λk y c hy hc=>?_)
     ·have:=qzY hj;exact(qAV.1 this).1
     ·rw[hpush]at hy;by_cases hk:k<j
      ·rw[qAe (by rw[qAq];have:=(qzV.1 hj).1;omega),qAf,if_pos hk]at hy;rw[qAe (by rw[qAq];omega),qAf,if_pos hk]at hc;exact hle2 k y c hy hc
      ·have hjl2:=(qzV.1 hj).1;have e1:((kT es seen).take j).length=j:=by rw[qAq];omega
       have e2:(left.take j).length=j:=by rw[qAq];omega
       rw[qz9 (by rw[e1];omega),qAF,e1]at hy;rw[qz9 (by rw[e2];omega),qAF,e2]at hc;exact hle2 _ y c hy hc
    have hm:=hst.own id (some (.miter b' [left[j]] (left.take j++left.drop (j+1)))) hgr (λc hc=>by cases hc;exact⟨_,hH,rfl⟩) (λr c h1 h2=>by cases h1;cases h2;exact .inr ⟨_,hH,rfl⟩) (λm r h1=>by
     cases h1;exact⟨some bm,since,clock,seen.push e.born,hb1,m _ _ hgood⟩)
    refine⟨_,_, .tup [.v (.bool true), .any, .any],_,_,by simp only[execOp,ho,hq,qAk,hrun,qz8,qAu], .inl rfl,hm, .tup [.bool true,e.key,e.val] _ rfl (λk y c h1 h2=>by
     match k with
     | 0=>simp at h1 h2;subst h1;subst h2;exact .bool _
     | 1=>simp at h1 h2;subst h1;subst h2;exact .any _
     | 2=>simp at h1 h2;subst h1;subst h2;exact .any _
     |k+3=>simp at h1),h2 _ _ _ hds⟩
 ·rename_i b' m xm clock seen hH;obtain⟨rfl,hv⟩:=hv;unfold Jz at hv;split at hv
  ·rename_i x' es st clock' hM;obtain⟨rfl,rfl,h0,h1⟩:=hv;obtain⟨mb,rfl,g1⟩:=hst.sat.ok id _ hH;obtain⟨bm,ents,hbm,hb,hbo,rfl,hents⟩:=hst.sat.ok m _ hM;cases hbm;have h3:(leftOf ents seen.toArray).toList=kT ents seen.toArray:=by simp[leftOf,kT]
   rcases run_next_at (P:=P) w o.type b' mb clock' clock' seen.toArray ents clock' g1 hb hbo.1 (qz2 _)with⟨hz,hrun⟩|⟨e,he,w1,hw1,hrun⟩
   ·have hm:=hst.own m (some (.mrow (.map (some mb)) es)) (ga w none) (λc hc=>by cases hc) (λr c k1 k2=>by cases k1;exact .inr ⟨_,hM,k2⟩) (λmv r k1=>by
     cases k1;exact⟨mb,ents,clock',rfl,hb,hbo,hents.1,λk e c he hc=>mv _ _ (hents.2 k e c he hc)⟩)
    refine⟨_,_, .tup [.v (.bool false)],_,w,by simp only[execOp,ho,hq,qAk,hrun,qz8,qAu], .inl rfl,hm, .tup [.bool false] [.v (.bool false)] rfl (λk y c k1 k2=>by
     match k with
     | 0=>simp at k1 k2;subst k1;subst k2;exact .bool _
     |k+1=>simp at k1),h0 λs hs=>?_⟩
    have h4:kT ents seen.toArray=[]:=qAN.1 (by rw[<-h3,qAi];exact hz);obtain⟨e,he,rfl⟩:=qz1.1 hs;have h5:=List.filter_eq_nil_iff.1 h4 e he;simpa using h5
   ·rw[h3]at he;obtain⟨he1,he2⟩:=qAV.1 he;have hns:e.born∉seen:=by simpa using he2
    have hgr:GrB w (setBlock w1 b' (.mapIter (some mb) clock' (seen.toArray.push e.born) clock')) (some b'):=by
     rcases hw1 with rfl|rfl
     ·exact yf _ _ _
     ·have:=yf w.drew b' (.mapIter (some mb) clock' (seen.toArray.push e.born) clock');exact⟨⟨rfl,rfl,rfl,this.size,this.block⟩,qBe _⟩
    have hb1:(setBlock w1 b' (.mapIter (some mb) clock' (seen.toArray.push e.born) clock')).heap[b']? =some (.mapIter (some mb) clock' (seen.toArray.push e.born) clock'):=by
     rcases hw1 with rfl|rfl
     ·exact tU _ g1
     ·exact tU (w:=w.drew) _ g1
    have hm:=hst.own id (some (.raw (.mit b' m (.map (some mb)) clock' (seen++ [e.born])))) hgr (λc hc=>by cases hc;exact⟨_,hH,rfl⟩) (λr c k1 k2=>by cases k1;cases k2;exact .inr ⟨_,hH,rfl⟩) (λmv r k1=>by
     cases k1;exact⟨mb,rfl,by rw[hb1];simp⟩)
    refine⟨_,_, .tup [.v (.bool true), .any, .any],_,_,by simp only[execOp,ho,hq,qAk,hrun,qz8,qAu], .inl rfl,hm, .tup [.bool true,e.key,e.val] _ rfl (λk y c k1 k2=>by
     match k with
     | 0=>simp at k1 k2;subst k1;subst k2;exact .bool _
     | 1=>simp at k1 k2;subst k1;subst k2;exact .any _
     | 2=>simp at k1 k2;subst k1;subst k2;exact .any _
     |k+3=>simp at k1),h1 _ (qz1.2 ⟨e,he1,rfl⟩) hns⟩
  ·exact hv.elim
 ·exact hv.elim
def Io{α β:Type}(f:α->β):∀(l:List α) (i:Nat),(l.eraseIdx i).map f=(l.map f).eraseIdx i
 | [],i=>by simp
 |a::l,0=>by simp
 |a::l,i+1=>by simp[Io f l i]
theorem qmq{t kt et ty2:TypeId}{c:Call}{x k:Operand}{ka:Bool}{ks:List KK}{K:D->ab->Prop}(hst:StW E tp H w)(ho:o.op= .call c)(hc:c.callee= .builtin .delete)(hat:c.argTypes.toList=[t,ty2])(hargs:c.args.toList=[x,k])(ht:P.underlying t=some (.map kt et))(hkt:KeyT P kt ka ks)
 (hx:R tp (bh E.O tp H w) w (a.eval x) (ev σ x)) (hk:R tp (bh E.O tp H w) w (a.eval k) (ev σ k)) (hv:bk (.m (.del ka ks) [x,k]) o.dst σ H K):dB P o a E tp H w K:=by
 obtain⟨cl,⟨args⟩,⟨ats⟩⟩:=c;simp only at hat hargs hc;subst hat;subst hargs;subst hc;simp only[bk,qAo,qBb]at hv;generalize hq:a.eval x=q at hx;generalize hxd:ev σ x=xd at hx hv;cases xd<;>try (exact hv.elim)
 rename_i id xv;cases hx;simp only[gM]at hv;split at hv
 ·rename_i x' es st clock hH;obtain⟨rfl,hall,hfk,hup,hno⟩:=hv;obtain⟨b,ents,rfl,hb,hbo,rfl,hents⟩:=hst.sat.ok _ _ hH;have hkv:=SJ hfk hk;have hck:∀em,(Instr.checkKey em 10000 kt (a.eval k)).run P w= .ok () w:=λem=>by
   obtain⟨xs,h1,h2⟩:=hkv;rw[h1];exact qqO em 50 kt ks ka hkt.c hkt.a 9950 xs h2
  obtain⟨r,hr,hcase⟩:=SK (P:=P) hkt hkv ents.toList (SR hents hall);have hset:∀ob:Obj,(setObj b ob).run P w= .ok () (setBlock w b ob):=λob=>by simp[setObj,Sem.run,hb,setBlock]
  have sC:∀(ents':Array MapEntry) (es':List D) (st':List Nat),(∀ty,(Builtin.delete_ #[t,ty2] ty #[.map (some b),a.eval k]).run P w= .ok (.tuple #[]) (setBlock w b (.map ents' clock)))->pT ents' clock->ents'.toList.map (·.born)=st'->
   Cs (R tp (bh E.O tp H w) w) ents' es'->K (.tup []) (ai H id (some (.raw (.mrs (.map (some b)) es' st' clock))))->dB P o a E tp H w K:=by
   intro ents' es' st' hrun hbo' hst' hents' hK;have hm:=hst.own id (some (.raw (.mrs (.map (some b)) es' st' clock))) (yf w b (.map ents' clock)) (λc hc=>by cases hc;exact⟨_,hH,rfl⟩) (λr c k1 k2=>by cases k1;cases k2;exact .inr ⟨_,hH,rfl⟩) (λmv r k1=>by
    cases k1;exact⟨b,ents',rfl,tU _ hb,hbo',hst',hents'.1,λk e c he hc=>mv _ _ (hents'.2 k e c he hc)⟩)
   refine⟨.value (.tuple #[]), .tuple #[], .tup [],_,_,?_, .inl rfl,hm, .tup [] [] rfl (λk x c h=>by simp at h),hK⟩;simp[execOp,ho,resolve,invoke,builtin,hq,hrun]
  rcases hcase with⟨rfl,hne⟩|⟨j,e,rfl,hj,hke⟩
  ·refine sC ents es _ (λty=>?_) hbo rfl hents (hno λhp v' hmem=>?_)
   ·simp[Builtin.delete_,run_underlying ht,getObj,Sem.run,hb,hck,hr,hset]
   ·obtain⟨i,hi⟩:=qAp.1 hmem;have hlt:i<ents.size:=by rw[hents.1];exact(qzV.1 hi).1
    have hR:=hents.2 i ents[i] _ (by simp[hlt]) hi;exact hne ents[i] (by simp) (RV hp hR.ent.1 hk)
  ·have hj':ents[j]? =some e:=by simpa using hj
   have hjl:j<ents.size:=(qz3.1 hj').1;obtain⟨c,hc,hR⟩:=B3 hents hj';obtain⟨k',v',rfl,_⟩:=GH (qz4.1 hall c (qzY hc));have hl:(ents.eraseIdxIfInBounds j).toList=ents.toList.eraseIdx j:=by simp[Array.eraseIdxIfInBounds,hjl]
   refine sC (ents.eraseIdxIfInBounds j) (es.eraseIdx j) ((ents.toList.map (·.born)).eraseIdx j) (λty=>?_) ⟨λe he=>?_,?_⟩ ?_ ⟨?_,λi e2 c2 he hc2=>?_⟩ (hup j k' v' hc ⟨tp,bh E.O tp H w,w,a.eval k,hk,by rw[<-hke];exact hR.ent.1⟩)
   ·simp[Builtin.delete_,run_underlying ht,getObj,Sem.run,hb,hck,hr,hset]
   ·rw[hl]at he;exact hbo.1 e (List.mem_of_mem_eraseIdx he)
   ·rw[hl,Io];exact hbo.2.sublist (List.eraseIdx_sublist _ _)
   ·rw[hl,Io]
   ·rw[<-qAi,hl,List.length_eraseIdx,List.length_eraseIdx,qAi,hents.1]
   ·rw[<-qAn,hl,List.getElem?_eraseIdx]at he;rw[List.getElem?_eraseIdx]at hc2;split at he
    ·rename_i hij;rw[if_pos hij]at hc2;exact hents.2 i e2 c2 (by simpa using he) hc2
    ·rename_i hij;rw[if_neg hij]at hc2;exact hents.2 (i+1) e2 c2 (by simpa using he) hc2
 ·exact hv.elim
end
end Go.Gv
