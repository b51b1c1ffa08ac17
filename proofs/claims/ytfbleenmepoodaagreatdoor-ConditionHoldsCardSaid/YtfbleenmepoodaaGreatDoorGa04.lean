/- A part of the framework and of the walks: S3. -/
import Derived.Test.YtfbleenmepoodaaGreatDoorGa03
set_option linter.unusedSimpArgs false
set_option linter.unusedVariables false
set_option linter.unusedSectionVars false
set_option linter.defProp false
namespace Go.Gv
section
variable {P:Program}{o:Oper}{a:Act}{tp I:Nat->Prop}{w:World}{σ:Sg}{K:D->Prop}
def Dv{t:TypeId}{k:K7}(h:iv P t=some k):eN P t=some false:=by
 unfold iv at h;unfold eN;cases hu:P.underlying t with
 | none=>simp[hu]at h
 | some d=>rw[hu]at h;cases d <;> simp at h ⊢
def KS(a b:ByteArray):(a.toList==b.toList)=decide (a=b):=by
 rw[qla,qla];have:(a=b) ↔ (a.data.toList=b.data.toList):=by
  constructor
  ·intro h;rw[h]
  ·intro h;cases a;cases b;simp only at h;congr 1;exact qkT.1 h
 simp only[this];rw[qkx];simp
def ul{d:D}{p:IntKind×Int}(h:iB d=some p):d= .v (.int p.1 p.2):=by
 unfold iB at h;split at h
 ·cases h;rfl
 ·cases h
def SC{d:D}{s:ByteArray}(h:qb6 d=some s):d= .v (.string s):=by
 unfold qb6 at h;split at h
 ·cases h;rfl
 ·cases h
def SD{d:D}{b:Bool}(h:qb7 d=some b):d= .v (.bool b):=by
 unfold qb7 at h;split at h
 ·cases h;rfl
 ·cases h
def AV{d:D}{cs:List D}(h:lO d=some cs):d= .agg cs:=by
 unfold lO at h;split at h
 ·cases h;rfl
 ·cases h
theorem Fx{k:K7}{d e:D}{p:Bool}(h:Mn k d e=some p):
 (k= .int/\∃kk a b,d= .v (.int kk a)/\e= .v (.int kk b)/\p=decide (a=b))\/(k= .str/\∃a b,d= .v (.string a)/\e= .v (.string b)/\p=decide (a=b))\/
 (k= .bool/\∃a b,d= .v (.bool a)/\e= .v (.bool b)/\p=decide (a=b)):=by
 cases k with
 | int=>
   simp only[Mn,qjy]at h;obtain⟨⟨k1,a⟩,h1,⟨k2,b⟩,h2,h3⟩:=h;split at h3
   ·rename_i hk;simp only at hk h3;subst hk;cases h3;exact .inl ⟨rfl,k1,a,b,ul h1,ul h2,rfl⟩
   ·cases h3
 | str=>
   simp only[Mn,qjy]at h;obtain⟨a,h1,b,h2,h3⟩:=h;cases h3;exact .inr (.inl ⟨rfl,a,b,SC h1,SC h2,rfl⟩)
 | bool=>
   simp only[Mn,qjy]at h;obtain⟨a,h1,b,h2,h3⟩:=h;cases h3;exact .inr (.inr ⟨rfl,a,b,SD h1,SD h2,rfl⟩)
def Mm{t:TypeId}(h:iv P t=some .int):∃k,P.underlying t=some (.int k):=by
 unfold iv at h;split at h <;> first|exact⟨_,by assumption⟩|cases h
def Ml{t:TypeId}(h:iv P t=some .str):P.underlying t=some .string:=by
 unfold iv at h;split at h <;> first|assumption|cases h
def Kh{t:TypeId}(h:iv P t=some .bool):P.underlying t=some .bool:=by
 unfold iv at h;split at h <;> first|assumption|cases h
def M4{t:TypeId}{k:K7}(h:iv P t=some k){x y:Value}{d e:D}(hx:R tp I w x d)(hy:R tp I w y e){p:Bool}(hp:Mn k d e=some p)(n:Nat)(w':World):
 (Op.equalIn (n+1) t x y).run P w'= .ok p w':=by
 rcases Fx hp with⟨rfl,kk,q,r,rfl,rfl,rfl⟩|⟨rfl,q,r,rfl,rfl,rfl⟩|⟨rfl,q,r,rfl,rfl,rfl⟩
 ·have h1:=hx.inv_v;have h2:=hy.inv_v;subst h1;subst h2;obtain⟨k0,hu⟩:=Mm h;rw[run_equalIn_int w' n t _ _ _ _ hu];simp[BEq.beq]
 ·have h1:=hx.inv_v;have h2:=hy.inv_v;subst h1;subst h2;rw[run_equalIn_string w' n t _ _ (Ml h),KS]
 ·have h1:=hx.inv_v;have h2:=hy.inv_v;subst h1;subst h2;rw[run_equalIn_bool' w' n t _ _ (Kh h)];simp[BEq.beq]
def CH{t:TypeId}(h:eN P t=some false){xs:List Value}{off:Nat}{x:Value}(hx:xs[off]? =some x)(w':World):(part t xs.toArray off).run P w'= .ok x w':=by
 simp[part,nc h,hx]
theorem GD(n:Nat)(w':World)(fs:List Field):∀ (ks:List K7) (as bs:List D) (xs ys:List Value) (s:Nat),
 fs.mapM (fun f => iv P f.type) = some ks → fs.map (·.offset) = List.range' s fs.length → fs.all (fun f => decide (f.name ≠ "_")) = true →
 xs.length=s+as.length->ys.length=s+bs.length->(∀ (k:Nat) (x:Value) (c:D),xs[s+k]? =some x->as[k]? =some c->R tp I w x c)->(∀ (k:Nat) (x:Value) (c:D),ys[s+k]? =some x->bs[k]? =some c->R tp I w x c)->
 ∀p,Mk ks as bs=some p->(Op.eqFields (n+1) xs.toArray ys.toArray fs).run P w'= .ok p w':=by
 induction fs with
 | nil=>
   intro ks as bs xs ys s hk hof hnm hlx hly hx hy p hp;simp at hk;subst hk;simp[Mk]at hp;simp[Op.eqFields,hp.2]
 | cons f fs ih=>
   intro ks as bs xs ys s hk hof hnm hlx hly hx hy p hp;rw[qkd]at hk;cases hkf:iv P f.type with
   | none=>simp[hkf]at hk
   | some k0=>
     cases hkr:fs.mapM (λf=>iv P f.type)with
     | none=>simp[hkf,hkr]at hk
     | some kr=>
       simp[hkf,hkr]at hk;subst hk;simp only[qj2,qkn,qlj,qke]at hof;obtain⟨h0,hof⟩:=hof;simp only[qls,qjE,decide_eq_true_eq]at hnm;simp only[Mk,qjy]at hp;obtain⟨a0,ha0,b0,hb0,p0,e1,q0,e2,hpq⟩:=hp;cases as with
       | nil=>simp at ha0
       | cons a1 as=>
         cases bs with
         | nil=>simp at hb0
         | cons b1 bs=>
           simp at ha0 hb0;subst ha0;subst hb0;simp only[List.tail_cons]at e2;have lx:s < xs.length:=by rw[hlx];simp
           have ly:s < ys.length:=by rw[hly];simp
           have ex:xs[f.offset]? =some xs[s]:=by rw[h0];simp[lx]
           have ey:ys[f.offset]? =some ys[s]:=by rw[h0];simp[ly]
           have rx:R tp I w xs[s] a1:=hx 0 _ a1 (by simp[lx]) rfl;have ry:R tp I w ys[s] b1:=hy 0 _ b1 (by simp[ly]) rfl;have r1:=M4 hkf rx ry e1 n w';simp at hpq;simp only[Op.eqFields,hnm.1,ne_eq,not_false_eq_true,if_true,qjR,CH (Dv hkf) ex,CH (Dv hkf) ey,qjI,r1];cases p0
           ·simp at hpq ⊢;exact hpq
           ·simp only[qlI]at hpq;simp only[Bool.not_true,qkc,if_false];rw[<-hpq];refine ih kr as bs xs ys (s+1) hkr hof hnm.2 (by rw[hlx];simp;omega) (by rw[hly];simp;omega) ?_ ?_ q0 e2
            ·intro k x c h1 h2;exact hx (k+1) x c (by rw[<-h1];congr 1;omega) h2
            ·intro k x c h1 h2;exact hy (k+1) x c (by rw[<-h1];congr 1;omega) h2
theorem J3{neg:Bool}{t u:TypeId}{x y:Operand}{c:COp}(ho:o.op= .binOp (if neg then .neq else .eql) t x y u)(hc:jh P neg t x y=some c)
 (hx:R tp I w (a.eval x) (ev σ x)) (hy:R tp I w (a.eval y) (ev σ y)) {H:aa} (hv:ah c σ H K):Good P o a tp I w K:=by
 unfold jh at hc;split at hc
 ·rename_i k hk;cases hc;simp only[ah]at hv;split at hv
  ·rename_i p hp;simp only[R1,qkc,if_false]at hp;have hr:∀n w',(Op.equalIn (n+1) t (a.eval x) (a.eval y)).run P w'= .ok p w':=λn w'=>M4 hk hx hy hp n w'
   refine⟨.bool (if neg then !p else p),_,?_, .bool _,hv⟩;have hr:=hr 9999 w;generalize hq1:a.eval x=p1 at*;generalize hq2:a.eval y=p2 at*;rcases Fx hp with⟨rfl,kk,q,r,e1,e2,rfl⟩|⟨rfl,q,r,e1,e2,rfl⟩|⟨rfl,q,r,e1,e2,rfl⟩
   all_goals
    rw[e1]at hx;rw[e2]at hy;have h1:=hx.inv_v;have h2:=hy.inv_v;subst h1;subst h2
   ·cases neg <;> simp[execOp,ho,hq1,hq2,eqGuard,binOp,Op.intCmp,BEq.beq,bne]
   ·cases neg <;> simp[execOp,ho,hq1,hq2,eqGuard,binOp,Op.stringOp,KS]
   ·cases neg <;> simp[execOp,ho,hq1,hq2,eqGuard,binOp,Op.equal,Op.maxDepth,hr]
  ·exact hv.elim
 ·rename_i hk;cases hks:rH P t with
  | none=>simp[hks]at hc
  | some ks=>
    simp[hks]at hc;subst hc;unfold rH at hks;split at hks
    ·rename_i fs hu;split at hks
     ·rename_i hcond;simp only[qjE,qlu,decide_eq_true_eq]at hcond;obtain⟨⟨⟨c1,c2⟩,c3⟩,c4⟩:=hcond;simp only[ah]at hv;split at hv
      ·rename_i p hp;simp only[R1,if_true,qjy]at hp;obtain⟨as,h1,bs,h2,hp⟩:=hp;rw[AV h1]at hx;rw[AV h2]at hy;obtain⟨xs,ex,lx,kx⟩:=hx.inv_agg;obtain⟨ys,ey,ly,ky⟩:=hy.inv_agg;have hfo:P.fieldsOf t=fs:=by simp[Program.fieldsOf,hu]
       have hrun:=GD (P:=P) (tp:=tp) (I:=I) (w:=w) 9998 w fs.toList ks as bs xs ys 0 hks c3 c4 (by omega) (by omega) (λk x c q1 q2=>(kx k x c (by simpa using q1) q2).2) (λk x c q1 q2=>(ky k x c (by simpa using q1) q2).2) p hp;have hagg:=run_equalIn_struct (P:=P) w 9999 t xs.toArray ys.toArray (by rw[hfo];exact hu) c1;rw[hfo,hrun]at hagg;have hagg:(Op.equalIn 10000 t (Value.agg xs.toArray) (Value.agg ys.toArray)).run P w= .ok p w:=hagg;refine⟨.bool (if neg then !p else p),_,?_, .bool _,hv⟩;cases neg <;> simp only[execOp,ho,ex,ey,if_true,qkc,if_false,qjR,run_eqGuard_agg _ _ _ _ _ _ _ c2,qjI,run_eql_struct,run_neq_struct,hagg,qj0]
      ·exact hv.elim
     ·cases hks
    ·cases hks
def ay{α β:Type}{f:α->β}{x:Option α}{y:β}(h:x.map f=some y):∃z,x=some z/\f z=y:=by
 cases x with
 | none=>cases h
 | some z=>exact⟨z,rfl,by simpa using h⟩
def Fu{n:Nat} :∀ {es:List D} (i:Nat),(∀d∈es,d.cells.length=n)->∀k,(aR (es.drop i))[k]? =(aR es)[i*n+k]?:=by
 intro es i
 induction i generalizing es with
 | zero=>intro _ k;simp
 | succ i ih=>
   intro h k;cases es with
   | nil=>simp[aR]
   | cons d es=>
     have hd:=h d (by simp);have:=ih (es:=es) (λd hd=>h d (by simp[hd])) k;simp only[qlJ];rw[this];simp only[aR,qkA];rw[qjK (by rw[hd,qkj];omega),hd];congr 1;rw[qkj];omega
def iD{es:List D}{h:Nat}{k:Nat}{c:D}(hk:(aR (es.take h))[k]? =some c):(aR es)[k]? =some c:=by
 have:aR es=aR (es.take h) ++aR (es.drop h):=by rw[<-lD,qkr]
 rw[this,qjQ (qjA.1 hk).1];exact hk
theorem Df{b off cap n:Nat}{es:List D}{f:Nat->Value}(hI:I b)(hc:es.length<=cap)(hm:cap<=maxLen)(hz:n≠1->PlainB w b)(hn:∀d∈es,d.kn=true/\d.cells.length=n)
 (hcell:∀ (k:Nat) (c:D),(aR es)[k]? =some c->w.cell? ⟨b,off+k,none⟩=some (f k)) (hone:∀ (k:Nat) (c:D),(aR es)[k]? =some c->(f k).oneCell'=true)
 (hr:∀ (k:Nat) (c:D),(aR es)[k]? =some c->R tp I w (f k) c) {l h:Nat} (hlh:l<=h) (hh:h<=es.length):
 R tp I w (.slice (some ⟨b,off+l*n,none⟩) (h -l) (cap -l)) (.list n ((es.take h).drop l)):=by
 have hlen:((es.take h).drop l).length=h -l:=by simp;omega
 have hmem:∀d∈ (es.take h).drop l,d∈es:=λd hd=>qjX (qkh hd)
 have hget:∀ (k:Nat) (c:D),(aR ((es.take h).drop l))[k]? =some c->(aR es)[l*n+k]? =some c:=by
  intro k c hk;rw[Fu (n:=n) l (λd hd=>(hn d (qjX hd)).2)]at hk;exact iD hk
 rw[<-hlen];refine .list b (off+l*n) (cap -l) n _ (λk=>f (l*n+k)) hI (by omega) (by omega) hz (λd hd=>hn d (hmem d hd)) (λk c hk=>?_) (λk c hk=>hone _ c (hget k c hk)) (λk c hk=>hr _ c (hget k c hk));rw[qkP];exact hcell _ c (hget k c hk)
theorem wP{lo hi:Option Operand}{len:Nat}{Kc:Nat->Nat->Prop}(hlo:∀y,lo=some y->R tp I w (a.eval y) (ev σ y))(hhi:∀y,hi=some y->R tp I w (a.eval y) (ev σ y))
 (hv:lK (lo.map λo=>iB (ev σ o)) (hi.map λo=>iB (ev σ o)) len Kc):∃l h,l<=h/\h<=len/\Kc l h/\∀cap,len<=cap->(Instr.sliceBounds true len cap (lo.map a.eval) (hi.map a.eval) none).run P w= .ok (l,h,cap) w:=by
 have vint:∀ (y:Operand) (p:IntKind×Int),R tp I w (a.eval y) (ev σ y)->iB (ev σ y)=some p->a.eval y= .int p.1 p.2:=λy p hy hp=>by
  rw[ul hp]at hy;exact hy.inv_v
 unfold lK at hv;split at hv
 ·rename_i e2 e3;have hl:lo=none:=by simpa using e2
  have hh:hi=none:=by simpa using e3
  subst hl;subst hh;exact⟨0,len,qj5 _,qjL _,hv,λcap hc=>by simp[Instr.sliceBounds]⟩
 ·rename_i kk l e2 e3;obtain⟨y,rfl,hy⟩:=ay e2;have hh:hi=none:=by simpa using e3
  subst hh;obtain⟨h0,h1,hk⟩:=hv;have:=vint y _ (hlo y rfl) hy;refine⟨l.toNat,len,by omega,qjL _,hk,λcap hc=>?_⟩;simp[Instr.sliceBounds,this,Instr.sliceBound,asIntOf,h0,h1]
 ·rename_i kk h e2 e3;obtain⟨y,rfl,hy⟩:=ay e3;have hl:lo=none:=by simpa using e2
  subst hl;obtain⟨h0,h1,hk⟩:=hv;have:=vint y _ (hhi y rfl) hy;refine⟨0,h.toNat,qj5 _,by omega,hk,λcap hc=>?_⟩;have h2:h<=(cap:Int):=by omega
  simp[Instr.sliceBounds,this,Instr.sliceBound,asIntOf,h0,h2]
 ·rename_i kl l kh h e2 e3;obtain⟨y,rfl,hy⟩:=ay e2;obtain⟨z,rfl,hz⟩:=ay e3;obtain⟨h0,h1,h2,hk⟩:=hv;have e4:=vint y _ (hlo y rfl) hy;have e5:=vint z _ (hhi z rfl) hz;refine⟨l.toNat,h.toNat,by omega,by omega,hk,λcap hc=>?_⟩;have h3:h<=(cap:Int):=by omega
  have h4:(0:Int)<=h:=by omega
  have h5:l<=((h.toNat:Nat):Int):=by omega
  simp[Instr.sliceBounds,e4,e5,Instr.sliceBound,asIntOf,h0,h3,h4,h5];intro hbad;omega
 ·exact hv.elim
theorem L4{t el:TypeId}{n:Nat}{x:Operand}{lo hi:Option Operand}(ho:o.op= .slice t x lo hi none)(ht:P.underlying t=some (.slice el))(hs:cj P el=some n)
 (hx:R tp I w (a.eval x) (ev σ x)) (hlo:∀y,lo=some y->R tp I w (a.eval y) (ev σ y)) (hhi:∀y,hi=some y->R tp I w (a.eval y) (ev σ y)) {H Hr:aa} (hle:∀i r,Hr i=some r->H i=some r) (hsat:∀i r,H i=some r->ResOk (R tp I w) w r) (hv:ah (.slice n x lo hi) σ Hr K):Good P o a tp I w K:=by
 simp only[ah]at hv;split at hv
 ·rename_i n' es e1;rw[e1]at hx;obtain⟨rfl,hv⟩:=hv;generalize hq:a.eval x=q at hx;have vint:∀ (y:Operand) (p:IntKind×Int),R tp I w (a.eval y) (ev σ y)->iB (ev σ y)=some p->a.eval y= .int p.1 p.2:=λy p hy hp=>by
   rw[ul hp]at hy;exact hy.inv_v
  have main:∀ (l h:Nat),l<=h->h<=es.length->∃y,(∀ (bo:Option Addr) (len cap:Nat),q= .slice bo len cap->
   y= .slice (if cap=l then bo else bo.map (·.add (l*n'))) (h -l) (cap -l))/\R tp I w y (.list n' ((es.take h).drop l)):=by
   intro l h h1 h2;cases hx with
   | nolist bo cap _=>
     have:h=0:=by simpa using h2
     subst this;have:l=0:=by omega
     subst this;refine⟨.slice bo 0 cap,λbo' len cap' he=>?_,by simpa using .nolist bo cap n'⟩;cases he;cases bo <;> simp[Addr.add_zero']
   | list b off cap _ _ f hI hc hm hz hn hcell hone hr=>
     by_cases hcl:cap=l
     ·subst hcl;have e0:h -cap=0:=by omega
      have e1:(es.take h).drop cap=[]:=by
       apply qjP;simp;omega
      refine⟨.slice (some ⟨b,off,none⟩) 0 (cap -cap),λbo' len cap' he=>?_,by rw[e1];exact .nolist _ _ _⟩;cases he;simp[e0]
     ·refine⟨.slice (some ⟨b,off+l*n',none⟩) (h -l) (cap -l),λbo' len cap' he=>?_,Df hI hc hm hz hn hcell hone hr h1 h2⟩;cases he;simp[hcl,gU]
  have vsl:∃bo len cap,q= .slice bo len cap/\len=es.length/\len<=cap:=by
   cases hx with
   | nolist bo cap _=>exact⟨bo,0,cap,rfl,rfl,qj5 _⟩
   | list b off cap _ _ f hI hc hm hz hn hcell hone h=>exact⟨_,_,_,rfl,rfl,hc⟩
  obtain⟨bo,len,cap,hqe,hlen,hcap⟩:=vsl;subst hlen;have run:∀ (l h:Nat),l<=h->h<=es.length->(Instr.sliceBounds true es.length cap (lo.map a.eval) (hi.map a.eval) none).run P w= .ok (l,h,cap) w->K (.list n' ((es.take h).drop l))->Good P o a tp I w K:=by
   intro l h h1 h2 hb hk;obtain⟨y,hy,hR⟩:=main l h h1 h2;have hy':=hy bo es.length cap hqe;refine⟨y,_,?_,hR,hk⟩;rw[hy'];simp only[execOp,ho,hq,hqe,Instr.sliceAt,qjR,run_underlying ht,qjI,Instr.slice,qkE,hb,aC hs,qj0]
  split at hv
  ·rename_i e2 e3;have hl:lo=none:=by simpa using e2
   have hh:hi=none:=by simpa using e3
   subst hl;subst hh;exact run 0 es.length (qj5 _) (qjL _) (by simp[Instr.sliceBounds]) (by simpa using hv)
  ·rename_i kk l e2 e3;obtain⟨y,rfl,hy⟩:=ay e2;have hh:hi=none:=by simpa using e3
   subst hh;obtain⟨h0,h1,hk⟩:=hv;have:=vint y _ (hlo y rfl) hy;refine run l.toNat es.length (by omega) (qjL _) ?_ (by simpa using hk);simp[Instr.sliceBounds,this,Instr.sliceBound,asIntOf,h0,h1]
  ·rename_i kk h e2 e3;obtain⟨y,rfl,hy⟩:=ay e3;have hl:lo=none:=by simpa using e2
   subst hl;obtain⟨h0,h1,hk⟩:=hv;have:=vint y _ (hhi y rfl) hy;have h2:h<=(cap:Int):=by omega
   refine run 0 h.toNat (qj5 _) (by omega) ?_ (by simpa using hk);simp[Instr.sliceBounds,this,Instr.sliceBound,asIntOf,h0,h2]
  ·rename_i kl l kh h e2 e3;obtain⟨y,rfl,hy⟩:=ay e2;obtain⟨z,rfl,hz⟩:=ay e3;obtain⟨h0,h1,h2,hk⟩:=hv;have e4:=vint y _ (hlo y rfl) hy;have e5:=vint z _ (hhi z rfl) hz;have h3:h<=(cap:Int):=by omega
   have h4:(0:Int)<=h:=by omega
   have h5:l<=((h.toNat:Nat):Int):=by omega
   refine run l.toNat h.toNat (by omega) (by omega) ?_ hk;simp[Instr.sliceBounds,e4,e5,Instr.sliceBound,asIntOf,h0,h3,h4,h5];intro hbad;omega
  ·exact hv.elim
 ·rename_i id y e1;rw[e1]at hx;generalize hq:a.eval x=q at hx;cases hx with
  | own _ _ hone=>
    split at hv
    ·rename_i x' el' n' es hH;obtain⟨hxe,rfl,hv⟩:=hv;subst hxe;obtain⟨xs,⟨g1,g2⟩,g3⟩:=hsat _ _ (hle _ _ hH);obtain⟨l,h,h1,h2,hk,hb⟩:=wP (P:=P) (w:=w) hlo hhi hv;rcases g2 with⟨h3,h4⟩|⟨g,cap,cur,h3,_,g5,g6,g7,_⟩
     ·have h40:h=0:=by omega
      have hl0:l=0:=by omega
      subst h40;subst hl0;have hb':=hb 0 (by omega);rw[h3]at hk;rw[h4]at hb';refine⟨.slice none 0 0,_,?_, .subnil id n',hk⟩;simp only[execOp,ho,hq,h3,Instr.sliceAt,qjR,run_underlying ht,qjI,Instr.slice,qkE,hb',aC hs,qj0];simp
     ·have hb':=hb cap g6;rw[h3]at hk;refine⟨.slice (if cap=l then some ⟨g,0,none⟩else some ⟨g,l*n',none⟩) (h -l) (cap -l),_,?_, .sub id g es.length cap n' l h _ h1 h2 g6 g7 (λh5=>?_),hk⟩
      ·simp only[execOp,ho,hq,h3,Instr.sliceAt,qjR,run_underlying ht,qjI,Instr.slice,qkE,hb',aC hs,qj0];by_cases hcl:cap=l <;> simp[hcl,gU]
      ·by_cases hcl:cap=l
       ·have:l=0:=by omega
        simp[hcl,this]
       ·simp[hcl]
    ·exact hv.elim
 ·rename_i id y n' lo' hi' e1;rw[e1]at hx;obtain⟨rfl,hv⟩:=hv;obtain⟨l,h,h1,h2,hk,hb⟩:=wP (P:=P) (w:=w) hlo hhi hv;generalize hq:a.eval x=q at hx;cases hx with
  | subnil=>
    have h40:h=0:=by omega
    have hl0:l=0:=by omega
    subst h40;subst hl0;have hb':=hb 0 (by omega);refine⟨.slice none 0 0,_,?_, .subnil id n',hk⟩;simp only[execOp,ho,hq,Instr.sliceAt,qjR,run_underlying ht,qjI,Instr.slice,qkE,hb',aC hs,qj0];simp
  | sub _ b len cap _ _ _ p g1 g2 g3 hm hp=>
    have hb':=hb (cap -lo') (by omega);have e2:h -l=(lo'+h) - (lo'+l):=by omega
    have e3:cap -lo' -l=cap - (lo'+l):=by omega
    refine⟨.slice (if cap -lo'=l then p else p.map (·.add (l*n'))) (h -l) (cap -lo' -l),_,?_,?_,hk⟩
    ·simp only[execOp,ho,hq,Instr.sliceAt,qjR,run_underlying ht,qjI,Instr.slice,qkE,hb',aC hs,qj0]
    ·rw[e2,e3];refine .sub id b len cap n' (lo'+l) (lo'+h) _ (by omega) (by omega) g3 hm (λh5=>?_);by_cases hcl:cap -lo'=l
     ·have hl0:l=0:=by omega
      have hlo0:lo'=0:=by omega
      have:=hp (.inr hlo0);rw[this];subst hl0;subst hlo0;simp[Addr.add_zero']
     ·have:=hp (by omega);rw[if_neg hcl,this];simp[gU,qkH]
 ·rename_i e1;rw[e1]at hx;have hq:=hx.inv_v;obtain⟨l,h,h1,h2,hk,hb⟩:=wP (P:=P) (w:=w) hlo hhi hv;have h40:h=0:=by omega
  have hl0:l=0:=by omega
  subst h40;subst hl0;have hb':=hb 0 (by omega);refine⟨.slice none 0 0,_,?_, .v _ rfl (λs hs=>by cases hs),hk⟩;simp only[execOp,ho,hq,Instr.sliceAt,qjR,run_underlying ht,qjI,Instr.slice,qkE,hb',aC hs,qj0];simp
 ·exact hv.elim
theorem J0{t:TypeId}{x:Operand}{lo hi:Option Operand}(ho:o.op= .slice t x lo hi none)(ht:P.underlying t=some .string)
 (hx:R tp I w (a.eval x) (ev σ x)) (hlo:∀y,lo=some y->R tp I w (a.eval y) (ev σ y)) (hhi:∀y,hi=some y->R tp I w (a.eval y) (ev σ y)) {H:aa} (hv:ah (.sslice x lo hi) σ H K):Good P o a tp I w K:=by
 simp only[ah]at hv;split at hv
 ·rename_i s e1;rw[e1]at hx;obtain⟨hq,hsz⟩:=hx.inv_str;have vint:∀ (y:Operand) (p:IntKind×Int),R tp I w (a.eval y) (ev σ y)->iB (ev σ y)=some p->a.eval y= .int p.1 p.2:=λy p hy hp=>by
   rw[ul hp]at hy;exact hy.inv_v
  have run:∀ (l h:Nat),(Instr.sliceBounds false s.size s.size (lo.map a.eval) (hi.map a.eval) none).run P w= .ok (l,h,s.size) w->K (.v (.string (s.extract l h)))->Good P o a tp I w K:=by
   intro l h hb hk;refine⟨.string (s.extract l h),_,?_, .str _ ?_,hk⟩
   ·simp only[execOp,ho,hq,Instr.sliceAt,qjR,run_underlying ht,qjI,Instr.slice,qkE,Option.isSome_none,qkc,if_false,hb,qj0]
   ·have:(s.extract l h).size<=s.size:=by simp[ByteArray.size_extract];omega
    omega
  split at hv
  ·rename_i e2 e3;have hl:lo=none:=by simpa using e2
   have hh:hi=none:=by simpa using e3
   subst hl;subst hh;exact run 0 s.size (by simp[Instr.sliceBounds]) hv
  ·rename_i kk l e2 e3;obtain⟨y,rfl,hy⟩:=ay e2;have hh:hi=none:=by simpa using e3
   subst hh;obtain⟨h0,h1,hk⟩:=hv;have:=vint y _ (hlo y rfl) hy;refine run l.toNat s.size ?_ hk;simp[Instr.sliceBounds,this,Instr.sliceBound,asIntOf,h0,h1]
  ·rename_i kk h e2 e3;obtain⟨y,rfl,hy⟩:=ay e3;have hl:lo=none:=by simpa using e2
   subst hl;obtain⟨h0,h1,hk⟩:=hv;have:=vint y _ (hhi y rfl) hy;refine run 0 h.toNat ?_ hk;simp[Instr.sliceBounds,this,Instr.sliceBound,asIntOf,h0,h1]
  ·rename_i kl l kh h e2 e3;obtain⟨y,rfl,hy⟩:=ay e2;obtain⟨z,rfl,hz⟩:=ay e3;obtain⟨h0,h1,h2,hk⟩:=hv;have e4:=vint y _ (hlo y rfl) hy;have e5:=vint z _ (hhi z rfl) hz;have h4:(0:Int)<=h:=by omega
   have h5:l<=((h.toNat:Nat):Int):=by omega
   refine run l.toNat h.toNat ?_ hk;simp[Instr.sliceBounds,e4,e5,Instr.sliceBound,asIntOf,h0,h2,h4,h5];intro hbad;omega
  ·exact hv.elim
 ·exact hv.elim
end
end Go.Gv
