/- A part of the framework and of the walks: S8 S9. -/
import Derived.ChangeKeysEq
import Derived.Maps.RangeRun
import Derived.MapKept
import Derived.Test.YtfbleenmepoodaaGreatDoorGa06
set_option linter.unusedSimpArgs false
set_option linter.unusedVariables false
set_option linter.unusedSectionVars false
set_option linter.defProp false
namespace Go.Gv
def qeV(w:World):KK->Value->Prop
 | .int k,x=>∃n,x= .int k n
 | .str,x=>∃s,x= .string s
 | .bool,x=>∃b,x= .bool b
 | .ptr,x=>x= .pointer none\/ ∃b off,x= .pointer (some ⟨b,off,none⟩)/\PlainB w b
def KVl(w:World):List KK->List Value->Prop
 | [], []=>True
 | k::ks,x::xs=>qeV w k x/\KVl w ks xs
 | _,_=>False
def zj(ka:Bool)(xs:List Value):Value:=if ka then .agg xs.toArray else xs.headD undef
def KVl.length{w:World} :∀ {ks:List KK} {xs:List Value},KVl w ks xs->xs.length=ks.length
 | [], [],_=>rfl
 | _::ks,_::xs,h=>by simp[KVl.length h.2]
 | [],_::_,h=>h.elim
 | _::_, [],h=>h.elim
def KVl.split{w:World} :∀ {k1 k2:List KK} {xs:List Value},KVl w (k1++k2) xs->∃x1 x2,xs=x1++x2/\KVl w k1 x1/\KVl w k2 x2
 | [],k2,xs,h=>⟨[],xs,rfl,trivial,h⟩
 | k::k1,k2,x::xs,h=>by
   obtain⟨x1,x2,rfl,h1,h2⟩:=KVl.split h.2;exact⟨x::x1,x2,rfl,⟨h.1,h1⟩,h2⟩
 | _::_,_, [],h=>h.elim
section
variable {P:Program}{w:World}
def EW{t:TypeId}{n:Nat}(h:cj P t=some n):∃i,P.info? t=some i/\P.cellsOf t=n:=by
 unfold cj at h;cases hu:P.info? t with
 | none=>simp[hu]at h
 | some i=>
   rw[hu]at h;simp at h;exact⟨i,rfl,by simp[Program.cellsOf,hu,h]⟩
def qr{n:Nat}{t:TypeId}{ks:List KK}(h:Bt P n t=some ks):∃ka,eN P t=some ka/\(ka=false->∃k,ks=[k]):=by
 cases n with
 | zero=>cases h
 | succ n=>
   unfold Bt at h;unfold eN;split at h
   ·rename_i k hu;rw[hu];cases h;exact⟨false,rfl,λ_=>⟨_,rfl⟩⟩
   ·rename_i hu;rw[hu];cases h;exact⟨false,rfl,λ_=>⟨_,rfl⟩⟩
   ·rename_i hu;rw[hu];cases h;exact⟨false,rfl,λ_=>⟨_,rfl⟩⟩
   ·rename_i e hu;rw[hu];split at h
    ·cases h;exact⟨false,rfl,λ_=>⟨_,rfl⟩⟩
    ·cases h
   ·rename_i fs hu;rw[hu];exact⟨true,rfl,λh=>by cases h⟩
   ·rename_i len e hu;rw[hu];exact⟨true,rfl,λh=>by cases h⟩
   ·cases h
def nb{e:TypeId}{ka:Bool}(ha:eN P e=some ka){pre mid post:List Value}(hs:cj P e=some mid.length)(h1:ka=false->mid.length=1):
 (part e (pre++ (mid++post)).toArray pre.length).run P w= .ok (zj ka mid) w:=by
 cases ka with
 | true=>
   simp only[part,qjR,nc ha,qjI,if_true,aC hs,qj0,zj];congr 2;apply qkT.1;simp[List.drop_append,List.take_append]
 | false=>
   obtain⟨x,rfl⟩:=qkI.1 (h1 rfl);have hx:(pre++ ([x] ++post))[pre.length]? =some x:=by simp
   rw[CH ha hx];rfl
theorem Gy{b c o p:Nat}(h1:PlainB w b)(h2:PlainB w c):(sameAddr ⟨b,o,none⟩ ⟨c,p,none⟩).run P w= .ok ((⟨b,o,none⟩:Addr)==⟨c,p,none⟩) w:=by
 obtain⟨xs,el,h1⟩:=h1;obtain⟨ys,el2,h2⟩:=h2;have fr:∀ (b o:Nat) (xs:Array Value) (el:Nat),w.heap[b]? =some (.cells xs el (0,0))->w.frozen? ⟨b,o,none⟩=false:=λb o xs el h=>by
  simp[World.frozen?,h]
 have sh:∀ (b:Nat) (xs:Array Value) (el:Nat),w.heap[b]? =some (.cells xs el (0,0))->w.shape? b=some (el,xs.size):=λb xs el h=>by
  simp[World.shape?,h]
 by_cases hbc:b=c
 ·subst hbc;simp[sameAddr]
 ·have hne:((⟨b,o,none⟩:Addr)==⟨c,p,none⟩)=false:=by
   simp[hbc]
  rw[hne];have hb:(b==c)=false:=by simp[hbc]
  simp[sameAddr,hb,frozen,shape,Sem.run,fr _ _ _ _ h1,fr _ _ _ _ h2,noView,viewAt,sh _ _ _ h1,sh _ _ _ h2,mayBeOne,stringish]
def YF(P:Program)(w:World)(dd:Nat)(e:TypeId)(ka:Bool)(ks:List KK):Prop:=
 ∀xs ys,KVl w ks xs->KVl w ks ys->∃r:Bool,(Op.equalIn dd e (zj ka xs) (zj ka ys)).run P w= .ok r w/\(r=true↔xs=ys)
theorem Fw{dd:Nat}{kf:TypeId->Option (List KK)}(hk:∀t ks,kf t=some ks->∃ka,eN P t=some ka/\(ka=false->ks.length=1)/\YF P w dd t ka ks):
 ∀ (fs:List Field) (off:Nat) (ks:List KK),uC P kf fs off=some ks->∀pre xs pre' ys:List Value,pre.length=off->pre'.length=off->KVl w ks xs->KVl w ks ys->
  ∃r:Bool,(Op.eqFields dd (pre++xs).toArray (pre'++ys).toArray fs).run P w= .ok r w/\(r=true↔xs=ys)
 | [],off,ks,h,pre,xs,pre',ys,_,_,hx,hy=>by
   cases h;have h1:=qkf.1 hx.length;have h2:=qkf.1 hy.length;subst h1;subst h2;exact⟨true,by simp[Op.eqFields],by simp⟩
 | f::fs,off,ks,h,pre,xs,pre',ys,hp,hp',hx,hy=>by
   unfold uC at h;simp only[qjB,qjy]at h;obtain⟨k1,hk1,h⟩:=h;split at h
   ·rename_i hcond;simp only[qjy,qjO,qjE,decide_eq_true_eq]at h hcond;obtain⟨l,hl,rfl⟩:=h;obtain⟨⟨hoff,hn⟩,hsz⟩:=hcond;obtain⟨x1,x2,rfl,hx1,hx2⟩:=hx.split;obtain⟨y1,y2,rfl,hy1,hy2⟩:=hy.split;obtain⟨ka,ha,h1,heq⟩:=hk _ _ hk1;have p1:(part f.type (pre++ (x1++x2)).toArray f.offset).run P w= .ok (zj ka x1) w:=by
     rw[hoff,<-hp];exact nb ha (by rw[hx1.length];exact hsz) (λe=>by rw[hx1.length];exact h1 e)
    have p2:(part f.type (pre'++ (y1++y2)).toArray f.offset).run P w= .ok (zj ka y1) w:=by
     rw[hoff,<-hp'];exact nb ha (by rw[hy1.length];exact hsz) (λe=>by rw[hy1.length];exact h1 e)
    obtain⟨r,p3,hr⟩:=heq x1 y1 hx1 hy1;obtain⟨r',p4,hr'⟩:=Fw hk fs (off+k1.length) l hl (pre++x1) x2 (pre'++y1) y2 (by simp[hp,hx1.length]) (by simp[hp',hy1.length]) hx2 hy2;rw[qkg,qkg]at p4;have happ:x1++x2=y1++y2↔x1=y1/\x2=y2:=⟨λh=>List.append_inj h (by rw[hx1.length,hy1.length]),λ⟨h1,h2⟩=>by rw[h1,h2]⟩
    simp only[Op.eqFields,hn,ne_eq,not_false_eq_true,if_true,qjR,p1,p2,p3,qjI,happ];cases r
    ·exact⟨false,by simp,by simp;intro e;exact absurd (hr.2 e) (by simp)⟩
    ·exact⟨r',by simpa using p4,by rw[hr'];simp[hr.1 rfl]⟩
   ·cases h
theorem Ki{dd:Nat}{e:TypeId}{ka:Bool}{ks:List KK}(ha:eN P e=some ka)(hs:cj P e=some ks.length)(h1:ka=false->ks.length=1)(heq:YF P w dd e ka ks):
 ∀ (m s:Nat) (pre xs pre' ys:List Value),pre.length=s*ks.length->pre'.length=s*ks.length->KVl w (List.replicate m ks).flatten xs->KVl w (List.replicate m ks).flatten ys->
  ∃r:Bool,(Op.eqItems dd e ks.length (pre++xs).toArray (pre'++ys).toArray (List.range' s m)).run P w= .ok r w/\(r=true↔xs=ys)
 | 0,s,pre,xs,pre',ys,_,_,hx,hy=>by
   have h1:=qkf.1 (KVl.length (ks:=[]) (by simpa using hx));have h2:=qkf.1 (KVl.length (ks:=[]) (by simpa using hy));subst h1;subst h2;exact⟨true,by simp[Op.eqItems],by simp⟩
 | m+1,s,pre,xs,pre',ys,hp,hp',hx,hy=>by
   rw[qlL,qlS]at hx hy;obtain⟨x1,x2,rfl,hx1,hx2⟩:=hx.split;obtain⟨y1,y2,rfl,hy1,hy2⟩:=hy.split;have p1:(part e (pre++ (x1++x2)).toArray (s*ks.length)).run P w= .ok (zj ka x1) w:=by
    rw[<-hp];exact nb ha (by rw[hx1.length];exact hs) (λe=>by rw[hx1.length];exact h1 e)
   have p2:(part e (pre'++ (y1++y2)).toArray (s*ks.length)).run P w= .ok (zj ka y1) w:=by
    rw[<-hp'];exact nb ha (by rw[hy1.length];exact hs) (λe=>by rw[hy1.length];exact h1 e)
   obtain⟨r,p3,hr⟩:=heq x1 y1 hx1 hy1;obtain⟨r',p4,hr'⟩:=Ki ha hs h1 heq m (s+1) (pre++x1) x2 (pre'++y1) y2 (by simp[hp,hx1.length,qkj]) (by simp[hp',hy1.length,qkj]) hx2 hy2;rw[qkg,qkg]at p4;have happ:x1++x2=y1++y2↔x1=y1/\x2=y2:=⟨λh=>List.append_inj h (by rw[hx1.length,hy1.length]),λ⟨h1,h2⟩=>by rw[h1,h2]⟩
   rw[qlj];simp only[Op.eqItems,qjR,p1,p2,p3,qjI,happ];cases r
   ·exact⟨false,by simp,by simp;intro e;exact absurd (hr.2 e) (by simp)⟩
   ·exact⟨r',by simpa using p4,by rw[hr'];simp[hr.1 rfl]⟩
def yd{ka:Bool}{ks:List KK}(h:ka=false->∃k,ks=[k]):ka=false->ks.length=1:=λe=>by
 obtain⟨k,rfl⟩:=h e;rfl
def KVl.one{k:KK}{xs:List Value}(h:KVl w [k] xs):∃x,xs=[x]/\qeV w k x:=by
 match xs,h with
 | [x],h=>exact⟨x,rfl,h.1⟩
 | _::_::_,h=>exact h.2.elim
theorem qgt:∀ (n:Nat) (t:TypeId) (ks:List KK) (ka:Bool),Bt P n t=some ks->eN P t=some ka->∀d,YF P w (d+n) t ka ks
 | 0,t,ks,ka,h,_,_=>by cases h
 | n+1,t,ks,ka,h,ha,d=>by
   intro xs ys hx hy;have hd:d+ (n+1)=(d+n) +1:=rfl;rw[hd];unfold Bt at h;unfold eN at ha;split at h
   ·rename_i k hu;rw[hu]at ha;cases h;cases ha;obtain⟨x,rfl,m,rfl⟩:=hx.one;obtain⟨y,rfl,q,rfl⟩:=hy.one;exact⟨m==q,run_equalIn_int w _ t _ _ _ _ hu,by simp⟩
   ·rename_i hu;rw[hu]at ha;cases h;cases ha;obtain⟨x,rfl,m,rfl⟩:=hx.one;obtain⟨y,rfl,q,rfl⟩:=hy.one;exact⟨m.toList==q.toList,run_equalIn_string w _ t _ _ hu,by simp[qla,qlT]⟩
   ·rename_i hu;rw[hu]at ha;cases h;cases ha;obtain⟨x,rfl,m,rfl⟩:=hx.one;obtain⟨y,rfl,q,rfl⟩:=hy.one;exact⟨m==q,run_equalIn_bool w _ t _ _ hu,by simp⟩
   ·rename_i e hu;rw[hu]at ha;split at h
    ·rename_i m hm;cases h;cases ha;obtain⟨x,rfl,hx⟩:=hx.one;obtain⟨y,rfl,hy⟩:=hy.one;simp only[zj,qkc,if_false,List.headD_cons];rcases hx with rfl|⟨b,o,rfl,hb⟩ <;> rcases hy with rfl|⟨c,p,rfl,hc⟩
     ·exact⟨true,by simp[Op.equalIn,run_underlying hu],by simp⟩
     ·exact⟨false,by simp[Op.equalIn,run_underlying hu],by simp⟩
     ·exact⟨false,by simp[Op.equalIn,run_underlying hu],by simp⟩
     ·refine⟨(⟨b,o,none⟩:Addr)==⟨c,p,none⟩,?_,by simp⟩;simp only[Op.equalIn,qjR,run_underlying hu,qjI,aC hm,ne_eq,Nat.add_eq_zero_iff,Nat.succ_ne_zero,and_false,not_false_eq_true,if_true];exact Gy hb hc
    ·cases h
   ·rename_i fs hu;rw[hu]at ha;split at h
    ·cases h
    ·rename_i hst;cases ha;have hfo:P.fieldsOf t=fs:=by simp[Program.fieldsOf,hu]
     have hrun:=run_equalIn_struct (P:=P) w (d+n) t xs.toArray ys.toArray (by rw[hfo];exact hu) (by simpa using hst);rw[hfo]at hrun;obtain⟨r,hr,hiff⟩:=Fw (P:=P) (w:=w) (dd:=d+n) (kf:=Bt P n) (λt' ks' hk'=>by
      obtain⟨ka',ha',h1'⟩:=qr hk';exact⟨ka',ha',yd h1',qgt n t' ks' ka' hk' ha' d⟩) fs.toList 0 ks h [] xs [] ys rfl rfl hx hy
     exact⟨r,by simp only[zj,if_true];rw[hrun];simpa using hr,hiff⟩
   ·rename_i len e hu;rw[hu]at ha;cases ha;simp only[qjB,qjy]at h;obtain⟨k1,hk1,h⟩:=h;split at h
    ·rename_i hsz;cases h;obtain⟨i,hi,hco⟩:=EW hsz;obtain⟨ka',ha',h1'⟩:=qr hk1;have hrun:=run_equalIn_array (P:=P) w (d+n) xs.toArray ys.toArray hu hi;rw[hco,qll]at hrun;obtain⟨r,hr,hiff⟩:=Ki ha' hsz (yd h1') (qgt n e k1 ka' hk1 ha' d) len 0 [] xs [] ys (by simp) (by simp) hx hy;exact⟨r,by simp only[zj,if_true];rw[hrun];simpa using hr,hiff⟩
    ·cases h
   ·cases h
def qjw(P:Program)(w:World)(em:Bool)(dd:Nat)(e:TypeId)(ka:Bool)(ks:List KK):Prop:=∀xs,KVl w ks xs->(Instr.checkKey em dd e (zj ka xs)).run P w= .ok () w
theorem qbS(em:Bool):∀ (n:Nat) (t:TypeId) (ks:List KK) (ka:Bool),Bt P n t=some ks->eN P t=some ka->∀d,qjw P w em (d+n) t ka ks
 | 0,t,ks,ka,h,_,_=>by cases h
 | n+1,t,ks,ka,h,ha,d=>by
   intro xs hx;have hd:d+ (n+1)=(d+n) +1:=rfl;rw[hd,Instr.checkKey];unfold Bt at h;unfold eN at ha;split at h
   ·rename_i k hu;rw[hu]at ha;cases h;cases ha;obtain⟨x,rfl,m,rfl⟩:=hx.one;simp[zj,run_underlying hu]
   ·rename_i hu;rw[hu]at ha;cases h;cases ha;obtain⟨x,rfl,m,rfl⟩:=hx.one;simp[zj,run_underlying hu]
   ·rename_i hu;rw[hu]at ha;cases h;cases ha;obtain⟨x,rfl,m,rfl⟩:=hx.one;simp[zj,run_underlying hu]
   ·rename_i e hu;rw[hu]at ha;split at h
    ·cases h;cases ha;obtain⟨x,rfl,hx⟩:=hx.one;rcases hx with rfl|⟨b,o,rfl,hb⟩ <;> simp[zj,run_underlying hu]
    ·cases h
   ·rename_i fs hu;rw[hu]at ha;split at h
    ·cases h
    ·cases ha;simp only[zj,if_true,qjR,run_underlying hu,qjI];rw[<-Array.forIn_toList];have key:∀ (l:List Field) (off:Nat) (ks:List KK),uC P (Bt P n) l off=some ks->∀pre xs:List Value,pre.length=off->KVl w ks xs->
      (forIn l PUnit.unit fun f r => (do if f.name ≠ "_" then (do Instr.checkKey em (d + n) f.type (← part f.type (pre ++ xs).toArray f.offset); pure (ForInStep.yield PUnit.unit)) else pure (ForInStep.yield PUnit.unit) : Sem (ForInStep PUnit))).run P w = .ok PUnit.unit w := by
      intro l
      induction l with
      | nil=>intro off ks _ pre xs _ _;simp
      | cons f l ih=>
        intro off ks h pre xs hp hx;unfold uC at h;simp only[qjB,qjy]at h;obtain⟨k1,hk1,h⟩:=h;split at h
        ·rename_i hcond;simp only[qjy,qjO,qjE,decide_eq_true_eq]at h hcond;obtain⟨l',hl,rfl⟩:=h;obtain⟨⟨hoff,hn⟩,hsz⟩:=hcond;obtain⟨x1,x2,rfl,hx1,hx2⟩:=hx.split;obtain⟨ka',ha',h1'⟩:=qr hk1;have p1:(part f.type (pre++ (x1++x2)).toArray f.offset).run P w= .ok (zj ka' x1) w:=by
          rw[hoff,<-hp];exact nb ha' (by rw[hx1.length];exact hsz) (λe=>by rw[hx1.length];exact yd h1' e)
         have p2:=qbS em n f.type k1 ka' hk1 ha' d x1 hx1;have p3:=ih (off+k1.length) l' hl (pre++x1) x2 (by simp[hp,hx1.length]) hx2;rw[qkg]at p3;simp only[List.forIn_cons,qjR,hn,ne_eq,not_false_eq_true,if_true,qjI,p1,p2,qj0];exact p3
        ·cases h
     have k0:=key fs.toList 0 ks h [] xs rfl hx;rw[qky]at k0;rw[k0];rfl
   ·rename_i len e hu;rw[hu]at ha;cases ha;simp only[qjB,qjy]at h;obtain⟨k1,hk1,h⟩:=h;split at h
    ·rename_i hsz;cases h;obtain⟨i,hi,hco⟩:=EW hsz;obtain⟨ka',ha',h1'⟩:=qr hk1;simp only[zj,if_true,qjR,run_underlying hu,qjI];simp only[Std.Legacy.Range.forIn_eq_forIn_range',Std.Legacy.Range.size,Nat.sub_zero,Nat.add_one_sub_one,Nat.div_one];have key:∀ (m s:Nat) (pre xs:List Value),pre.length=s*k1.length->KVl w (List.replicate m k1).flatten xs->
      (forIn (List.range' s m) PUnit.unit λi r=>(do Instr.checkKey em (d+n) e (<-part e (pre++xs).toArray (i* (<-sizeOf e)));pure (ForInStep.yield PUnit.unit):Sem (ForInStep PUnit))).run P w= .ok PUnit.unit w:=by
      intro m
      induction m with
      | zero=>intro s pre xs _ _;simp
      | succ m ih=>
        intro s pre xs hp hx;rw[qlL,qlS]at hx;obtain⟨x1,x2,rfl,hx1,hx2⟩:=hx.split;have p1:(part e (pre++ (x1++x2)).toArray (s*k1.length)).run P w= .ok (zj ka' x1) w:=by
         rw[<-hp];exact nb ha' (by rw[hx1.length];exact hsz) (λe=>by rw[hx1.length];exact yd h1' e)
        have p2:=qbS em n e k1 ka' hk1 ha' d x1 hx1;have p3:=ih (s+1) (pre++x1) x2 (by simp[hp,hx1.length,qkj]) hx2;rw[qkg]at p3;rw[qlj];simp only[List.forIn_cons,qjR,aC hsz,qjI,p1,p2,qj0];exact p3
     have k0:=key len 0 [] xs (by simp) hx;rw[qky]at k0;rw[k0];rfl
    ·cases h
   ·cases h
end
open Go.ChangeMaps (setBlock)
section
variable {P:Program}{w:World}
def Ux{ka:Bool}{ks:List KK}{xs ys:List Value}(h1:ka=false->ks.length=1)(hx:KVl w ks xs)(hy:KVl w ks ys)(h:zj ka xs=zj ka ys):xs=ys:=by
 cases ka with
 | true=>simpa [zj]using h
 | false=>
   obtain⟨k,rfl⟩:=qkI.1 (h1 rfl);obtain⟨x,rfl,_⟩:=hx.one;obtain⟨y,rfl,_⟩:=hy.one;simpa [zj]using h
def Sz(a b:ByteArray):(a==b)=true↔a=b:=by
 rw[beq_toListBytes];simp[qla,qlT]
def AK{d:TypeDesc}{x y:Value}{b:Bool}(h:Instr.sameNow d x y=some b):b=true↔x=y:=by
 unfold Instr.sameNow at h;split at h
 ·split at h
  ·rename_i hk;cases h;subst hk;simp
  ·cases h
 ·cases h;simp[Sz]
 ·cases h;simp
 ·cases h
theorem Do{d:TypeDesc}{x:Value} :∀ (es:List MapEntry) (i:Nat) (r:Option (Nat×Value)),Instr.findNow d x es i=some r->
 (r=none/\∀e∈es,e.key≠x)\/ ∃j e,r=some (i+j,e.val)/\es[j]? =some e/\e.key=x
 | [],i,r,h=>by
   cases h;exact .inl ⟨rfl,λe he=>by simp at he⟩
 | e::es,i,r,h=>by
   unfold Instr.findNow at h;split at h
   ·rename_i hs;cases h;exact .inr ⟨0,e,by simp,rfl,((AK hs).1 rfl).symm⟩
   ·rename_i hs;have hne:e.key≠x:=λe0=>by have:=(AK hs).2 e0.symm;cases this
    rcases Do es (i+1) r h with⟨h1,h2⟩|⟨j,e',h1,h2,h3⟩
    ·exact .inl ⟨h1,λy hy=>by
      rcases qjW.1 hy with rfl|hy
      ·exact hne
      ·exact h2 y hy⟩
    ·exact .inr ⟨j+1,e',by rw[h1,qkP,qlO 1 j],by simpa using h2,h3⟩
   ·cases h
structure KeyT (P:Program) (t:TypeId) (ka:Bool) (ks:List KK):Prop where
 c:Bt P 50 t=some ks
 a:eN P t=some ka
def uB{t:TypeId}{ka:Bool}{ks:List KK}(h:Rr P t=some (ka,ks)):KeyT P t ka ks:=by
 unfold Rr at h;simp only[qjB,qjy,qjO,Prod.mk.injEq]at h;obtain⟨a,h1,b,h2,rfl,rfl⟩:=h;exact⟨h2,h1⟩
def KeyT.one{t:TypeId}{ka:Bool}{ks:List KK}(h:KeyT P t ka ks):ka=false->ks.length=1:=by
 obtain⟨ka',h1,h2⟩:=qr h.c;have:=h.a.symm.trans h1;cases this;exact yd h2
def H9(w:World)(ka:Bool)(ks:List KK)(x:Value):Prop:=∃xs,x=zj ka xs/\KVl w ks xs
theorem Dp{t:TypeId}{ka:Bool}{ks:List KK}(ht:KeyT P t ka ks){x:Value}(hx:H9 w ka ks x):∀ (es:List MapEntry) (i:Nat),(∀e∈es,H9 w ka ks e.key)->
 ∃r,(Instr.findAsking t x es i).run P w= .ok r w/\((r=none/\∀e∈es,e.key≠x)\/ ∃j e,r=some (i+j,e.val)/\es[j]? =some e/\e.key=x)
 | [],i,_=>⟨none,by simp[Instr.findAsking], .inl ⟨rfl,λe he=>by simp at he⟩⟩
 | e::es,i,hall=>by
   obtain⟨xs,rfl,hxs⟩:=id hx;obtain⟨ys,hy,hys⟩:=hall e (by simp);obtain⟨r,hr,hiff⟩:=qgt (P:=P) (w:=w) 50 t ks ka ht.c ht.a 9950 xs ys hxs hys;have hr':(Op.equal t (zj ka xs) e.key).run P w= .ok r w:=by rw[hy];exact hr
   cases r with
   | true=>
     exact⟨some (i,e.val),by simp[Instr.findAsking,hr'], .inr ⟨0,e,by simp,rfl,by rw[hy,hiff.1 rfl]⟩⟩
   | false=>
     have hne:e.key≠zj ka xs:=λe0=>by
      have:=hiff.2 (Ux ht.one hxs hys (by rw[<-hy,e0]));cases this
     obtain⟨r,h1,h2⟩:=Dp ht hx es (i+1) (λe he=>hall e (by simp[he]));refine⟨r,by simp[Instr.findAsking,hr',h1],?_⟩;rcases h2 with⟨h2,h3⟩|⟨j,e',h2,h3,h4⟩
     ·exact .inl ⟨h2,λy hy=>by
       rcases qjW.1 hy with rfl|hy
       ·exact hne
       ·exact h3 y hy⟩
     ·exact .inr ⟨j+1,e',by rw[h2,qkP,qlO 1 j],by simpa using h3,h4⟩
theorem Hy{t:TypeId}{ka:Bool}{ks:List KK}(ht:KeyT P t ka ks){x:Value}(hx:H9 w ka ks x)(es:List MapEntry)(hall:∀e∈es,H9 w ka ks e.key):
 ∃r,(Instr.findKey t x es).run P w= .ok r w/\((r=none/\∀e∈es,e.key≠x)\/ ∃j e,r=some (j,e.val)/\es[j]? =some e/\e.key=x):=by
 obtain⟨ka',h1,h2⟩:=qr ht.c;have hu:∃d,P.underlying t=some d:=by
  have:=ht.a;unfold eN at this;split at this
  ·exact⟨_,by assumption⟩
  ·exact⟨_,by assumption⟩
  ·exact⟨_,by assumption⟩
  ·cases this
 obtain⟨d,hd⟩:=hu;cases hn:Instr.findNow d x es 0 with
 | some r=>
   refine⟨r,by simp[Instr.findKey,run_underlying hd,hn],?_⟩;simpa using Do es 0 r hn
 | none=>
   obtain⟨r,h3,h4⟩:=Dp ht hx es 0 hall;exact⟨r,by simp[Instr.findKey,run_underlying hd,hn,h3],by simpa using h4⟩
theorem Ot{ka:Bool}{ks:List KK}(h1:ka=false->ks.length=1){x:Value}(hx:H9 w ka ks x):Instr.sameBits 10000 x x=true:=by
 have cell:∀ (n:Nat) (k:KK) (x:Value),qeV w k x->Instr.sameBits n x x=true:=λn k x h=>by
  cases k with
  | int k=>obtain⟨m,rfl⟩:=h;cases n <;> simp[Instr.sameBits]
  | str=>obtain⟨m,rfl⟩:=h;cases n <;> simp[Instr.sameBits,Sz]
  | bool=>obtain⟨m,rfl⟩:=h;cases n <;> simp[Instr.sameBits]
  | ptr=>
    rcases h with rfl|⟨b,o,rfl,_⟩ <;> cases n <;> simp[Instr.sameBits]
 obtain⟨xs,rfl,hxs⟩:=hx;cases ka with
 | false=>
   obtain⟨k,rfl⟩:=qkI.1 (h1 rfl);obtain⟨x,rfl,hx⟩:=hxs.one;exact cell _ _ _ hx
 | true=>
   simp only[zj,if_true,Instr.sameBits,beq_self_eq_true,qlI];have all:∀ (ks:List KK) (xs:List Value),KVl w ks xs->(xs.zip xs).all (λx=>Instr.sameBits 9999 x.1 x.2)=true:=by
    intro ks
    induction ks with
    | nil=>intro xs h;cases xs with|nil=>rfl|cons=>exact h.elim
    | cons k ks ih=>
      intro xs h;cases xs with
      | nil=>exact h.elim
      | cons x xs=>simp[cell _ _ _ h.1];simpa using ih xs h.2
   exact all ks xs hxs
def P7{ka:Bool}{ks:List KK}(h1:ka=false->ks.length=1){x:Value}(hx:H9 w ka ks x):(Instr.keyThatStays x x).run P w= .ok x w:=by
 simp[Instr.keyThatStays,Ot h1 hx]
variable {tp I:Nat->Prop}
def RP{k:KK}{x:Value}{d:D}(hf:UW k d=true)(h:R tp I w x d):qeV w k x:=by
 unfold UW at hf;split at hf
 ·rename_i k k' n;have hk:k=k':=by simpa using hf
  have:=h.inv_v;subst hk;exact⟨_,this⟩
 ·exact⟨_,h.inv_v⟩
 ·exact⟨_,h.inv_v⟩
 ·rename_i cs off;cases h with
  | cptr b base _ _ f hI hz _ _ _=>exact .inr ⟨b,base+off,rfl,hz (by simpa using hf)⟩
 ·exact .inl h.inv_v
 ·cases hf
def RO:∀ {ks:List KK} {ds:List D} {xs:List Value},UV ks ds=true->xs.length=ds.length->(∀ (k:Nat) (x:Value) (c:D),xs[k]? =some x->ds[k]? =some c->R tp I w x c)->KVl w ks xs
 | [], [],xs,_,hl,_=>by
   have:=qkf.1 hl;subst this;trivial
 | k::ks,d::ds,x::xs,h,hl,hr=>by
   simp only[UV,qjE]at h;exact⟨RP h.1 (hr 0 x d rfl rfl),RO h.2 (by simpa using hl) λk y c h1 h2=>hr (k+1) y c h1 h2⟩
 | _::_,_::_, [],_,hl,_=>by simp at hl
 | [],_::_,_,h,_,_=>by cases h
 | _::_, [],_,h,_,_=>by cases h
def Hx{ka:Bool}{ks:List KK}{x:Value}{d:D}(hf:Mf ka ks d=true)(h:R tp I w x d):H9 w ka ks x:=by
 unfold Mf at hf;cases ka with
 | true=>
   simp only[if_true]at hf;cases d <;> simp only[lO]at hf <;> try (cases hf;done)
   obtain⟨xs,rfl,hl,hc⟩:=h.inv_agg;exact⟨xs,rfl,RO hf hl λk y c h1 h2=>(hc k y c h1 h2).2⟩
 | false=>
   simp only[qkc,if_false]at hf;split at hf
   ·exact⟨[x],rfl,RP hf h,trivial⟩
   ·cases hf
theorem GN{x y:Value}{d:D}(hp:K2 d=true)(hx:R tp I w x d)(hy:R tp I w y d):x=y:=by
 have one:∀ (c:D),qf7 c=true->∀ {x y:Value},R tp I w x c->R tp I w y c->x=y:=λc hc x y h1 h2=>by
  cases c <;> first|(cases hc;done)|exact h1.inv_v.trans h2.inv_v.symm
 by_cases hag:∃cs,d= .agg cs
 ·obtain⟨cs,rfl⟩:=hag;obtain⟨xs,rfl,hl,hc⟩:=hx.inv_agg;obtain⟨ys,rfl,hl2,hc2⟩:=hy.inv_agg;have:xs=ys:=by
   refine List.ext_getElem (by omega) λi h1 h2=>?_
   have hi:i < cs.length:=by omega
   have hv:qf7 cs[i]=true:=qjF.1 hp _ (by simp[D.cells]);exact one _ hv (hc i _ _ (qjC h1) (qjC hi)).2 (hc2 i _ _ (qjC h2) (qjC hi)).2
  rw[this]
 ·have hd:d.cells=[d]:=by cases d <;> first|rfl|exact absurd ⟨_,rfl⟩ hag
  rw[K2,hd]at hp;exact one d (by simpa using hp) hx hy
def R.ent{a b:Value}{k v:D}(h:R tp I w (.tuple #[a,b]) (.tup [k,v])):R tp I w a k/\R tp I w b v:=by
 generalize hq:Value.tuple #[a,b]=q at h;cases h with
 | tup xs ds hl h=>
   have hx:xs=[a,b]:=by
    injection hq with hq;have:=congrArg Array.toList hq;simpa using this.symm
   subst hx;exact⟨h 0 a k rfl rfl,h 1 b v rfl rfl⟩
def yE{ka:Bool}{ks:List KK}{d:D}(h:Pd ka ks d=true):∃k v,d= .tup [k,v]/\Mf ka ks k=true:=by
 unfold Pd at h;split at h
 ·exact⟨_,_,rfl,h⟩
 ·cases h
def R.mk_ent{a b:Value}{k v:D}(h1:R tp I w a k)(h2:R tp I w b v):R tp I w (.tuple #[a,b]) (.tup [k,v]):=
 .tup [a,b] [k,v] rfl λi x c hx hc=>by
  match i with
  | 0=>cases hx;cases hc;exact h1
  | 1=>cases hx;cases hc;exact h2
  | i+2=>simp at hx
end
end Go.Gv
