/- S3 -/
import Derived.Deep.AppendSrc
import Derived.Lib.AppendZeros
import Derived.Lib.OthersKept
import Derived.Laws.IdiomStrings
import Derived.Test.YtnffegdacbdhmaaGreatDoorGe01
set_option linter.all false
namespace Go.Gv
section
variable {P:Program}{o:Oper}{a:Act}{tp I:Nat->Prop}{w:World}{σ:Sg}{K:D->Prop}
def P5{t:TypeId}{k:qe7}(h:rh P t=some k):il P t=some false:=by
 grind [rh,il]
def qau(a b:ByteArray):(a.toList==b.toList)=decide (a=b):=by
 rw[qHp,qHp];have:(a=b) ↔ (a.data.toList=b.data.toList):=by
  constructor;grind
  ·intro h;cases a;simp_all
 grind
def EO{d:D}{p:IntKind×Int}(h:yF d=some p):d= .v (.int p.1 p.2):=by
 unfold yF at h;grind
def qlE{d:D}{s:ByteArray}(h:qzG d=some s):d= .v (.string s):=by
 unfold qzG at h;grind
def qlF{d:D}{b:Bool}(h:qzH d=some b):d= .v (.bool b):=by
 unfold qzH at h;grind
def Mf{d:D}{cs:List D}(h:rR d=some cs):d= .agg cs:=by
 grind [D,rR]
theorem Tv{k:qe7}{d e:D}{p:Bool}(h:qhg k d e=some p):
 (k= .int/\∃c a b,d= .v (.int c a)/\e= .v (.int c b)/\p=decide (a=b))\/(k= .str/\∃a b,d= .v (.string a)/\e= .v (.string b)/\p=decide (a=b))\/
 (k= .bool/\∃a b,d= .v (.bool a)/\e= .v (.bool b)/\p=decide (a=b)):=by
 cases k with
 | int=>
   simp only[qhg,qFA]at h;obtain⟨⟨j,a⟩,h1,⟨l,b⟩,h2,h3⟩:=h;split at h3
   ·rename_i hk;simp only at hk h3;subst hk;cases h3;exact .inl ⟨rfl,j,a,b,EO h1,EO h2,rfl⟩
   grind
 | str=>
   simp only[qhg,qFA]at h;obtain⟨a,h1,b,h2,h3⟩:=h;cases h3;exact .inr (.inl ⟨rfl,a,b,qlE h1,qlE h2,rfl⟩)
 | bool=>
   simp only[qhg,qFA]at h;obtain⟨a,h1,b,h2,h3⟩:=h;cases h3;exact .inr (.inr ⟨rfl,a,b,qlF h1,qlF h2,rfl⟩)
def qdO{t:TypeId}{k:qe7}(h:rh P t=some k){x y:Value}{d e:D}(b:R tp I w x d)(c:R tp I w y e){p:Bool}(hp:qhg k d e=some p)(n:Nat)(w':World):
 (Op.equalIn (n+1) t x y).run P w'= .ok p w':=by
 rcases Tv hp with⟨rfl,j,q,r,rfl,rfl,rfl⟩|⟨rfl,q,r,rfl,rfl,rfl⟩|⟨rfl,q,r,rfl,rfl,rfl⟩
 grind [rh,b.inv_v,c.inv_v,run_equalIn_int];grind [rh,b.inv_v,c.inv_v,run_equalIn_string,qau];grind [rh,b.inv_v,c.inv_v,run_equalIn_bool']
def OO{t:TypeId}(h:il P t=some false){xs:List Value}{off:Nat}{x:Value}(b:xs[off]? =some x)(w':World):(part t xs.toArray off).run P w'= .ok x w':=by
 simp[part,vU h,b]
theorem U9(n:Nat)(w':World)(fs:List Field):∀(ks:List qe7) (as bs:List D) (xs ys:List Value) (s:Nat),
 fs.mapM (fun f => rh P f.type) = some ks → fs.map (·.offset) = List.range' s fs.length → fs.all (fun f => decide (f.name ≠ "_")) = true →
 xs.length=s+as.length->ys.length=s+bs.length->(∀(k:Nat) (x:Value) (c:D),xs[s+k]? =some x->as[k]? =some c->R tp I w x c)->(∀(k:Nat) (x:Value) (c:D),ys[s+k]? =some x->bs[k]? =some c->R tp I w x c)->
 ∀p,qow ks as bs=some p->(Op.eqFields (n+1) xs.toArray ys.toArray fs).run P w'= .ok p w':=by
 induction fs with
 | nil=>
   simp_all [qow,Op.eqFields]
 | cons f fs ih=>
   intro ks as bs xs ys s hk hof hnm hlx hly hx hy p hp;rw[qGq]at hk;cases hkf:rh P f.type with
   |none=>grind
   | some k0=>
     cases hkr:fs.mapM (λf=>rh P f.type)with
     |none=>grind
     | some kr=>
       simp[hkf,hkr]at hk;subst hk;simp only[qF6,qGi,qHF,qF8]at hof;obtain⟨h0,hof⟩:=hof;simp only[qHo,qFJ,decide_eq_true_eq]at hnm;simp only[qow,qFA]at hp;obtain⟨a0,ha0,b0,hb0,p0,e1,q0,e2,hpq⟩:=hp;cases as with
       |nil=>simp at ha0
       | cons a1 as=>
         cases bs with
         |nil=>simp at hb0
         | cons b1 bs=>
           simp at ha0 hb0;subst ha0;subst hb0;simp only[List.tail_cons]at e2;have lx:s<xs.length:=by rw[hlx];simp
           have ly:s<ys.length:=by rw[hly];simp
           have ex:xs[f.offset]? =some xs[s]:=by rw[h0];simp[lx]
           have ey:ys[f.offset]? =some ys[s]:=by rw[h0];simp[ly]
           have rx:R tp I w xs[s] a1:=hx 0 _ a1 (by simp[lx]) rfl;have ry:R tp I w ys[s] b1:=hy 0 _ b1 (by simp[ly]) rfl;have r1:=qdO hkf rx ry e1 n w';simp at hpq;simp only[Op.eqFields,hnm.1,ne_eq,not_false_eq_true,if_true,qF0,OO (P5 hkf) ex,OO (P5 hkf) ey,qFR,r1];cases p0
           ·simp at hpq ⊢;exact hpq
           ·simp only[qHg]at hpq;simp only[Bool.not_true,qGt,if_false];rw[<-hpq];refine ih kr as bs xs ys (s+1) hkr hof hnm.2 (by rw[hlx];simp;omega) (by rw[hly];simp;omega) ?_ ?_ q0 e2
            ·intro k x c h1 h2;exact hx (k+1) x c (by rw[<-h1];congr 1;omega) h2
            ·intro k x c h1 h2;exact hy (k+1) x c (by rw[<-h1];congr 1;omega) h2
theorem ZH{neg:Bool}{t u:TypeId}{x y:Operand}{c:COp}(ho:o.op= .binOp (if neg then .neq else .eql) t x y u)(hc:pH P neg t x y=some c)
 (A:R tp I w (a.eval x) (ev σ x)) (C:R tp I w (a.eval y) (ev σ y)) {H:ab} (s:am c σ H K):Good P o a tp I w K:=by
 unfold pH at hc;split at hc
 ·rename_i k hk;cases hc;simp only[am]at s;split at s
  ·rename_i p hp;simp only[qrW,qGt,if_false]at hp;have F:∀n w',(Op.equalIn (n+1) t (a.eval x) (a.eval y)).run P w'= .ok p w':=λn w'=>qdO hk A C hp n w'
   refine⟨.bool (if neg then !p else p),_,?_, .bool _,s⟩;have F:=F 9999 w;generalize j:a.eval x=Y at*;generalize l:a.eval y=Z at*;rcases Tv hp with⟨rfl,kk,q,r,J,L,rfl⟩|⟨rfl,q,r,J,L,rfl⟩|⟨rfl,q,r,J,L,rfl⟩
   all_goals
    rw[J]at A;rw[L]at C;have h1:=A.inv_v;have h2:=C.inv_v;subst h1;subst h2
   ·cases neg<;>simp[execOp,ho,j,l,eqGuard,binOp,Op.intCmp,BEq.beq,bne]
   ·cases neg<;>simp[execOp,ho,j,l,eqGuard,binOp,Op.stringOp,qau]
   ·cases neg<;>simp[execOp,ho,j,l,eqGuard,binOp,Op.equal,Op.maxDepth,F]
  grind
 ·rename_i hk;cases d:BY P t with
  |none=>grind
  | some ks=>
    simp[d]at hc;subst hc;unfold BY at d;split at d
    ·rename_i fs hu;split at d
     ·rename_i h;simp only[qFJ,qHi,decide_eq_true_eq]at h;obtain⟨⟨⟨c1,c2⟩,c3⟩,c4⟩:=h;simp only[am]at s;split at s
      ·rename_i p hp;simp only[qrW,if_true,qFA]at hp;obtain⟨as,h1,Q,h2,hp⟩:=hp;rw[Mf h1]at A;rw[Mf h2]at C;obtain⟨xs,ex,lx,S⟩:=A.inv_agg;obtain⟨M,U,ly,ky⟩:=C.inv_agg;have N:P.fieldsOf t=fs:=by grind [rh,Program.fieldsOf]
       have E:=U9 (P:=P) (tp:=tp) (I:=I) (w:=w) 9998 w fs.toList ks as Q xs M 0 d c3 c4 (by omega) (by omega) (λk x c W O=>(S k x c (by grind) O).2) (λk x c W O=>(ky k x c (by grind) O).2) p hp;have b:=run_equalIn_struct (P:=P) w 9999 t xs.toArray M.toArray (by grind) c1;rw[N,E]at b;have b:(Op.equalIn 10000 t (Value.agg xs.toArray) (Value.agg M.toArray)).run P w= .ok p w:=b;refine⟨.bool (if neg then !p else p),_,?_, .bool _,s⟩;cases neg<;>simp only[execOp,ho,ex,U,if_true,qGt,if_false,qF0,run_eqGuard_agg _ _ _ _ _ _ _ c2,qFR,run_eql_struct,run_neq_struct,b,qF9]
      grind
     grind
    grind
def bb{b c:Type}{f:b->c}{x:Option b}{y:c}(h:x.map f=some y):∃z,x=some z/\f z=y:=by
 simp_all
def Tq{n:Nat} :∀{es:List D} (i:Nat),(∀d∈es,d.cells.length=n)->∀k,(bp (es.drop i))[k]? =(bp es)[i*n+k]?:=by
 intro es i
 induction i generalizing es with
 |zero=>simp
 | succ i b=>
   intro h k;cases es<;>grind [bp]
def nK{es:List D}{h:Nat}{k:Nat}{c:D}(hk:(bp (es.take h))[k]? =some c):(bp es)[k]? =some c:=by
 grind [ub,qGa]
theorem PK{b off cap n:Nat}{es:List D}{f:Nat->Value}(hI:I b)(hc:es.length<=cap)(hm:cap<=maxLen)(hz:n≠1->PlainB w b)(hn:∀d∈es,d.kn=true/\d.cells.length=n)
 (hcell:∀(k:Nat) (c:D),(bp es)[k]? =some c->w.cell? ⟨b,off+k,none⟩=some (f k)) (p:∀(k:Nat) (c:D),(bp es)[k]? =some c->(f k).oneCell'=true)
 (s:∀(k:Nat) (c:D),(bp es)[k]? =some c->R tp I w (f k) c) {l h:Nat} (t:l<=h) (hh:h<=es.length):
 R tp I w (.slice (some ⟨b,off+l*n,none⟩) (h -l) (cap -l)) (.list n ((es.take h).drop l)):=by
 have hlen:((es.take h).drop l).length=h -l:=by grind
 have q:∀d∈ (es.take h).drop l,d∈es:=λd r=>qF1 (qGw r)
 have j:∀(k:Nat) (c:D),(bp ((es.take h).drop l))[k]? =some c->(bp es)[l*n+k]? =some c:=by
  grind [PlainB,D.kn,Tq,nK]
 rw[<-hlen];refine .list b (off+l*n) (cap -l) n _ (λk=>f (l*n+k)) hI (by omega) (by omega) hz (λd r=>hn d (q d r)) (λk c hk=>?_) (λk c hk=>p _ c (j k c hk)) (λk c hk=>s _ c (j k c hk));grind
theorem Hj{lo hi:Option Operand}{len:Nat}{s:Nat->Nat->Prop}(j:∀y,lo=some y->R tp I w (a.eval y) (ev σ y))(k:∀y,hi=some y->R tp I w (a.eval y) (ev σ y))
 (d:xq (lo.map λo=>yF (ev σ o)) (hi.map λo=>yF (ev σ o)) len s):∃l h,l<=h/\h<=len/\s l h/\∀cap,len<=cap->(Instr.sliceBounds true len cap (lo.map a.eval) (hi.map a.eval) none).run P w= .ok (l,h,cap) w:=by
 have b:∀(y:Operand) (p:IntKind×Int),R tp I w (a.eval y) (ev σ y)->yF (ev σ y)=some p->a.eval y= .int p.1 p.2:=λy p c hp=>by
  rw[EO hp]at c;exact c.inv_v
 unfold xq at d;split at d
 ·rename_i q r;have hl:lo=none:=by simp_all
  have hh:hi=none:=by simp_all
  subst hl;subst hh;exact⟨0,len,qFY _,qFH _,d,λcap hc=>by rfl⟩
 ·rename_i t l q r;obtain⟨y,rfl,c⟩:=bb q;have hh:hi=none:=by simp_all
  subst hh;obtain⟨h0,h1,hk⟩:=d;have:=b y _ (j y rfl) c;refine⟨l.toNat,len,by omega,qFH _,hk,λcap hc=>?_⟩;simp_all [Instr.sliceBounds,Instr.sliceBound,asIntOf]
 ·rename_i t h q r;obtain⟨y,rfl,c⟩:=bb r;have hl:lo=none:=by simp_all
  subst hl;obtain⟨h0,h1,hk⟩:=d;have:=b y _ (k y rfl) c;refine⟨0,h.toNat,qFY _,by omega,hk,λcap hc=>?_⟩;have h2:h<=(cap:Int):=by omega
  simp_all [Instr.sliceBounds,Instr.sliceBound,asIntOf]
 ·rename_i u l x h q r;obtain⟨y,rfl,c⟩:=bb q;obtain⟨z,rfl,hz⟩:=bb r;obtain⟨h0,h1,h2,hk⟩:=d;have A:=b y _ (j y rfl) c;have C:=b z _ (k z rfl) hz;refine⟨l.toNat,h.toNat,by omega,by omega,hk,λcap hc=>?_⟩;have h3:h<=(cap:Int):=by omega
  have h4:(0:Int)<=h:=by omega
  have h5:l<=((h.toNat:Nat):Int):=by omega
  simp_all [Instr.sliceBounds,Instr.sliceBound,asIntOf]
 grind
theorem qcn{t el:TypeId}{n:Nat}{x:Operand}{lo hi:Option Operand}(ho:o.op= .slice t x lo hi none)(ht:P.underlying t=some (.slice el))(hs:cF P el=some n)
 (E:R tp I w (a.eval x) (ev σ x)) (J:∀y,lo=some y->R tp I w (a.eval y) (ev σ y)) (L:∀y,hi=some y->R tp I w (a.eval y) (ev σ y)) {H Hr:ab} (hle:∀i r,Hr i=some r->H i=some r) (hsat:∀i r,H i=some r->ResOk (R tp I w) w r) (k:am (.slice n x lo hi) σ Hr K):Good P o a tp I w K:=by
 simp only[am]at k;split at k
 ·rename_i C es Q;rw[Q]at E;obtain⟨rfl,k⟩:=k;generalize S:a.eval x=q at E;have A:∀(y:Operand) (p:IntKind×Int),R tp I w (a.eval y) (ev σ y)->yF (ev σ y)=some p->a.eval y= .int p.1 p.2:=λy p O hp=>by
   rw[EO hp]at O;exact O.inv_v
  have main:∀(l h:Nat),l<=h->h<=es.length->∃y,(∀(F:Option Addr) (len cap:Nat),q= .slice F len cap->
   y= .slice (if cap=l then F else F.map (·.add (l*C))) (h -l) (cap -l))/\R tp I w y (.list C ((es.take h).drop l)):=by
   intro l h h1 h2;cases E with
   | nolist F cap _=>
     have:h=0:=by grind
     subst this;have:l=0:=by omega
     subst this;refine⟨.slice F 0 cap,λbo' len Y he=>?_,by simpa using .nolist F cap C⟩;cases he;simp[Addr.add_zero']
   | list b off cap _ _ f hI hc hm hz hn hcell M hr=>
     by_cases j:cap=l
     ·subst j;have e0:h -cap=0:=by omega
      have Q:(es.take h).drop cap=[]:=by
       apply qFU;simp;omega
      refine⟨.slice (some ⟨b,off,none⟩) 0 (cap -cap),λbo' len Y he=>?_,by rw[Q];exact .nolist _ _ _⟩;cases he;simp[e0]
     ·refine⟨.slice (some ⟨b,off+l*C,none⟩) (h -l) (cap -l),λbo' len Y he=>?_,PK hI hc hm hz hn hcell M hr h1 h2⟩;cases he;simp[j,mj]
  have vsl:∃F len cap,q= .slice F len cap/\len=es.length/\len<=cap:=by
   cases E with
   |nolist F cap _=>exact⟨F,0,cap,rfl,rfl,qFY _⟩
   |list b off cap _ _ f hI hc hm hz hn hcell M h=>exact⟨_,_,_,rfl,rfl,hc⟩
  obtain⟨F,len,cap,hqe,hlen,hcap⟩:=vsl;subst hlen;have run:∀(l h:Nat),l<=h->h<=es.length->(Instr.sliceBounds true es.length cap (lo.map a.eval) (hi.map a.eval) none).run P w= .ok (l,h,cap) w->K (.list C ((es.take h).drop l))->Good P o a tp I w K:=by
   intro l h h1 h2 hb hk;obtain⟨y,O,hR⟩:=main l h h1 h2;have hy':=O F es.length cap hqe;refine⟨y,_,?_,hR,hk⟩;rw[hy'];simp only[execOp,ho,S,hqe,Instr.sliceAt,qF0,run_underlying ht,qFR,Instr.slice,qG7,hb,be hs,qF9]
  split at k
  ·rename_i U W;have hl:lo=none:=by simpa using U
   have hh:hi=none:=by simpa using W
   subst hl;subst hh;exact run 0 es.length (qFY _) (qFH _) (by simp[Instr.sliceBounds]) (by simpa using k)
  ·rename_i kk l U W;obtain⟨y,rfl,O⟩:=bb U;have hh:hi=none:=by simpa using W
   subst hh;obtain⟨h0,h1,hk⟩:=k;have:=A y _ (J y rfl) O;refine run l.toNat es.length (by omega) (qFH _) ?_ (by simpa using hk);simp[Instr.sliceBounds,this,Instr.sliceBound,asIntOf,h0,h1]
  ·rename_i kk h U W;obtain⟨y,rfl,O⟩:=bb W;have hl:lo=none:=by simpa using U
   subst hl;obtain⟨h0,h1,hk⟩:=k;have:=A y _ (L y rfl) O;have h2:h<=(cap:Int):=by omega
   refine run 0 h.toNat (qFY _) (by omega) ?_ (by simpa using hk);simp[Instr.sliceBounds,this,Instr.sliceBound,asIntOf,h0,h2]
  ·rename_i kl l kh h U W;obtain⟨y,rfl,O⟩:=bb U;obtain⟨z,rfl,hz⟩:=bb W;obtain⟨h0,h1,h2,hk⟩:=k;have e4:=A y _ (J y rfl) O;have e5:=A z _ (L z rfl) hz;have h3:h<=(cap:Int):=by omega
   have h4:(0:Int)<=h:=by omega
   have h5:l<=((h.toNat:Nat):Int):=by omega
   refine run l.toNat h.toNat (by omega) (by omega) ?_ hk;simp[Instr.sliceBounds,e4,e5,Instr.sliceBound,asIntOf,h0,h3,h4,h5];intro hbad;omega
  grind
 ·rename_i id y Q;rw[Q]at E;generalize S:a.eval x=q at E;cases E with
  | own _ _ M=>
    split at k
    ·rename_i x' el' C es hH;obtain⟨hxe,rfl,k⟩:=k;subst hxe;obtain⟨xs,⟨g1,g2⟩,g3⟩:=hsat _ _ (hle _ _ hH);obtain⟨l,h,h1,h2,hk,hb⟩:=Hj (P:=P) (w:=w) J L k;rcases g2 with⟨h3,h4⟩|⟨g,cap,cur,h3,_,g5,g6,g7,_⟩
     ·have N:h=0:=by omega
      have u:l=0:=by omega
      subst N;subst u;have d:=hb 0 (by omega);rw[h3]at hk;rw[h4]at d;refine⟨.slice none 0 0,_,?_, .subnil id C,hk⟩;simp only[execOp,ho,S,h3,Instr.sliceAt,qF0,run_underlying ht,qFR,Instr.slice,qG7,d,be hs,qF9];simp
     ·have d:=hb cap g6;rw[h3]at hk;refine⟨.slice (if cap=l then some ⟨g,0,none⟩else some ⟨g,l*C,none⟩) (h -l) (cap -l),_,?_, .sub id g es.length cap C l h _ h1 h2 g6 g7 (λh5=>?_),hk⟩
      ·simp only[execOp,ho,S,h3,Instr.sliceAt,qF0,run_underlying ht,qFR,Instr.slice,qG7,d,be hs,qF9];by_cases j:cap=l<;>simp[j,mj]
      ·by_cases j:cap=l
       ·have:l=0:=by omega
        simp[j,this]
       ·simp[j]
    ·exact k.elim
 ·rename_i id y C c hi' Q;rw[Q]at E;obtain⟨rfl,k⟩:=k;obtain⟨l,h,h1,h2,hk,hb⟩:=Hj (P:=P) (w:=w) J L k;generalize S:a.eval x=q at E;cases E with
  | subnil=>
    have N:h=0:=by omega
    have u:l=0:=by omega
    subst N;subst u;have d:=hb 0 (by omega);refine⟨.slice none 0 0,_,?_, .subnil id C,hk⟩;simp only[execOp,ho,S,Instr.sliceAt,qF0,run_underlying ht,qFR,Instr.slice,qG7,d,be hs,qF9];simp
  | sub _ b len cap _ _ _ p g1 g2 g3 hm hp=>
    have d:=hb (cap -c) (by omega);have U:h -l=(c+h) - (c+l):=by omega
    have W:cap -c -l=cap - (c+l):=by omega
    refine⟨.slice (if cap -c=l then p else p.map (·.add (l*C))) (h -l) (cap -c -l),_,?_,?_,hk⟩
    ·simp only[execOp,ho,S,Instr.sliceAt,qF0,run_underlying ht,qFR,Instr.slice,qG7,d,be hs,qF9]
    ·rw[U,W];refine .sub id b len cap C (c+l) (c+h) _ (by omega) (by omega) g3 hm (λh5=>?_);by_cases j:cap -c=l
     ·have u:l=0:=by omega
      have Z:c=0:=by omega
      have:=hp (.inr Z);rw[this];subst u;subst Z;simp[Addr.add_zero']
     ·have:=hp (by omega);rw[if_neg j,this];simp[mj,qHb]
 ·rename_i Q;rw[Q]at E;have S:=E.inv_v;obtain⟨l,h,h1,h2,hk,hb⟩:=Hj (P:=P) (w:=w) J L k;have N:h=0:=by omega
  have u:l=0:=by omega
  subst N;subst u;have d:=hb 0 (by omega);refine⟨.slice none 0 0,_,?_, .v _ rfl (λs hs=>by cases hs),hk⟩;simp only[execOp,ho,S,Instr.sliceAt,qF0,run_underlying ht,qFR,Instr.slice,qG7,d,be hs,qF9];simp
 grind
theorem ZC{t:TypeId}{x:Operand}{lo hi:Option Operand}(ho:o.op= .slice t x lo hi none)(M:P.underlying t=some .string)
 (u:R tp I w (a.eval x) (ev σ x)) (k:∀y,lo=some y->R tp I w (a.eval y) (ev σ y)) (q:∀y,hi=some y->R tp I w (a.eval y) (ev σ y)) {H:ab} (d:am (.sslice x lo hi) σ H K):Good P o a tp I w K:=by
 simp only[am]at d;split at d
 ·rename_i s C;rw[C]at u;obtain⟨N,E⟩:=u.inv_str;have b:∀(y:Operand) (p:IntKind×Int),R tp I w (a.eval y) (ev σ y)->yF (ev σ y)=some p->a.eval y= .int p.1 p.2:=λy p c hp=>by
   rw[EO hp]at c;exact c.inv_v
  have run:∀(l h:Nat),(Instr.sliceBounds false s.size s.size (lo.map a.eval) (hi.map a.eval) none).run P w= .ok (l,h,s.size) w->K (.v (.string (s.extract l h)))->Good P o a tp I w K:=by
   intro l h hb hk;refine⟨.string (s.extract l h),_,?_, .str _ ?_,hk⟩;simp_all [execOp,Instr.sliceAt,Instr.slice,run_underlying];simp;omega
  split at d
  ·rename_i j r;have hl:lo=none:=by simp_all
   have hh:hi=none:=by simp_all
   subst hl;subst hh;exact run 0 s.size (by rfl) d
  ·rename_i F l j r;obtain⟨y,rfl,c⟩:=bb j;have hh:hi=none:=by simp_all
   subst hh;obtain⟨h0,h1,hk⟩:=d;have:=b y _ (k y rfl) c;refine run l.toNat s.size ?_ hk;simp_all [Instr.sliceBounds,Instr.sliceBound,asIntOf]
  ·rename_i F h j r;obtain⟨y,rfl,c⟩:=bb r;have hl:lo=none:=by simpa using j
   subst hl;obtain⟨h0,h1,hk⟩:=d;have:=b y _ (q y rfl) c;refine run 0 h.toNat ?_ hk;simp_all [Instr.sliceBounds,Instr.sliceBound,asIntOf]
  ·rename_i O l Q h j r;obtain⟨y,rfl,c⟩:=bb j;obtain⟨z,rfl,hz⟩:=bb r;obtain⟨h0,h1,h2,hk⟩:=d;have J:=b y _ (k y rfl) c;have L:=b z _ (q z rfl) hz;have h4:(0:Int)<=h:=by omega
   have h5:l<=((h.toNat:Nat):Int):=by omega
   refine run l.toNat h.toNat ?_ hk;simp[Instr.sliceBounds,J,L,Instr.sliceBound,asIntOf,h0,h2,h4,h5];intro A;omega
  grind
 grind
end
def qJ(off:Nat):∀(l:List (Value×Nat)) (cells:Array Value),(l.foldl (λcs p=>cs.setIfInBounds (off+p.2) p.1) cells).size=cells.size
 | [],_=>rfl
 |p::l,cells=>by rw[qGC,qJ off l];simp
def yu(off:Nat):∀(l:List Value) (s:Nat) (cells:Array Value) (k:Nat),off+s+l.length<=cells.size->
 ((l.zipIdx s).foldl (λcs p=>cs.setIfInBounds (off+p.2) p.1) cells)[k]? =if off+s<=k/\k<off+s+l.length then l[k - (off+s)]? else cells[k]?
 | [],s,cells,k,h=>by
   simp;omega
 | v::l,s,cells,k,h=>by
   simp only[qGi]at h;rw[List.zipIdx_cons,qGC,yu off l (s+1) _ k (by grind)];grind
def K6{place:Nat->Option (Nat×Nat)}{cells:Array Value}{i off sz:Nat}{v:Value}{rest:List (Nat×Value)}(hp:place i=some (off,sz))(c:v.cells.size=sz)(b:off+sz<=cells.size):
 Instr.fill place cells ((i,v)::rest)=Instr.fill place ((v.cells.toList.zipIdx 0).foldl (λcs p=>cs.setIfInBounds (off+p.2) p.1) cells) rest:=by
 simp only[Instr.fill,hp];rw[if_neg (by grind)];grind [Array.toList_zipIdx]
section
variable {P:Program}{o:Oper}{a:Act}{tp I:Nat->Prop}{w:World}{σ:Sg}{K:D->Prop}
def ES{Q:Value->D->Prop}{cells b:Array Value}{ds:List D}{new:List D}{nv:List Value}{off:Nat}(hl:cells.size=ds.length)(h:ba Q cells.toList ds)(hn:nv.length=new.length)(p:ba Q nv new)
 (l:off+new.length<=ds.length) (hc:∀k:Nat,b[k]? =if off<=k/\k<off+nv.length then nv[k -off]? else cells[k]?):ba Q b.toList (setAt ds off new):=by
 intro k y c d j;simp only[qFZ]at d;rw[hc k]at d;simp only[Gv.setAt]at j;split at d;grind [ba]
 ·rename_i hk;refine h k y c (by grind) ?_;grind
def Ko{l new:List D}{off:Nat}(h:off+new.length<=l.length)(k:Nat):(setAt l off new)[k]? =if off<=k/\k<off+new.length then new[k -off]? else l[k]?:=by
 have b:(l.take off).length=off:=by grind
 have c:(l.take off++new).length=off+new.length:=by grind
 simp only[setAt];grind
def pS{ds new:List D}{off:Nat}(h:off+new.length<=ds.length):(setAt ds off new).length=ds.length:=by
 grind [setAt]
theorem ZT{fs:Array Field}{places:List (Nat×Nat)}(h:∀(i:Nat) (f:Field) (sz:Nat),fs[i]? =some f->cF P f.type=some sz->places[i]? =some (f.offset,sz))(N:Nat):
 ∀ (parts:List (Nat×Operand)) (s:List (Nat×Nat×Operand)),(∀p∈parts,R tp I w (a.eval p.2) (ev σ p.2))->
  parts.mapM (λp=>do
   let f <-fs[p.1]?
   let sz <-cF P f.type
   if f.offset+sz<=N then some (f.offset,sz,p.2)else none)=some s->
  ∀ (cs:Array Value) (ds:List D) (j:List D->Prop),cs.size=N->ds.length=N->ba (R tp I w) cs.toList ds->mJ σ s ds j->
   ∃cs' b,Instr.fill (λi=>places[i]?) cs (parts.map λp=>(p.1,a.eval p.2))=some cs'/\cs'.size=N/\b.length=N/\ba (R tp I w) cs'.toList b/\j b
 | [],s,_,hm,cs,ds,j,h1,h2,h3,l=>by
   simp at hm;subst hm;exact⟨cs,ds,rfl,h1,h2,h3,l⟩
 | p::parts,s,y,hm,cs,ds,j,h1,h2,h3,l=>by
   rw[qGq]at hm;simp only[qFD,qFA,Option.pure_def]at hm;obtain⟨q,⟨f,E,sz,t,u⟩,rest,c,x⟩:=hm;split at u
   ·rename_i A;cases u;cases x;obtain⟨F,M,l⟩:=l;have J:=y p (by simp);obtain⟨c1,c2⟩:=J.cells F;have d:(a.eval p.2).cells.size=sz:=by grind
    have L:=K6 (place:=λi=>places[i]?) (cells:=cs) (i:=p.1) (v:=a.eval p.2) (rest:=parts.map λp=>(p.1,a.eval p.2)) (h p.1 f sz E t) d (by omega);have hlen:(a.eval p.2).cells.toList.length=sz:=by omega
    have C:=yu f.offset (a.eval p.2).cells.toList 0 cs;have r:ba (R tp I w) (((a.eval p.2).cells.toList.zipIdx 0).foldl (λcs p=>cs.setIfInBounds (f.offset+p.2) p.1) cs).toList (setAt ds f.offset (ev σ p.2).cells):=
     ES (cells:=cs) (nv:=(a.eval p.2).cells.toList) (by omega) h3 (by omega) c2 (by omega) (λk=>by
      grind)
    obtain⟨cs',b,O,Q,S,U,W⟩:=ZT h N parts rest (λq u=>y q (by grind)) c _ _ j (by simp_all [qJ]) (by grind [pS]) r l;grind
   grind
theorem Tt(sz:Nat)(N:Nat):
 ∀ (parts:List (Nat×Operand)) (r:List (Nat×Nat×Operand)),(∀p∈parts,R tp I w (a.eval p.2) (ev σ p.2))->
  parts.mapM (λp=>if p.1*sz+sz<=N then some (p.1*sz,sz,p.2)else none)=some r->
  ∀ (cs:Array Value) (ds:List D) (h:List D->Prop),cs.size=N->ds.length=N->ba (R tp I w) cs.toList ds->mJ σ r ds h->
   ∃cs' b,Instr.fill (λi=>some (i*sz,sz)) cs (parts.map λp=>(p.1,a.eval p.2))=some cs'/\cs'.size=N/\b.length=N/\ba (R tp I w) cs'.toList b/\h b
 | [],r,_,hm,cs,ds,h,h1,h2,h3,j=>by
   simp at hm;subst hm;exact⟨cs,ds,rfl,h1,h2,h3,j⟩
 | p::parts,r,u,hm,cs,ds,h,h1,h2,h3,j=>by
   rw[qGq]at hm;simp only[qFD,qFA,Option.pure_def]at hm;obtain⟨q,s,rest,c,t⟩:=hm;split at s
   ·rename_i x;cases s;cases t;obtain⟨A,F,j⟩:=j;have C:=u p (by simp);obtain⟨c1,c2⟩:=C.cells A;have d:(a.eval p.2).cells.size=sz:=by grind
    have E:=K6 (place:=λi=>some (i*sz,sz)) (cells:=cs) (i:=p.1) (v:=a.eval p.2) (rest:=parts.map λp=>(p.1,a.eval p.2)) rfl d (by omega);have hlen:(a.eval p.2).cells.toList.length=sz:=by omega
    have y:=yu (p.1*sz) (a.eval p.2).cells.toList 0 cs;have l:ba (R tp I w) (((a.eval p.2).cells.toList.zipIdx 0).foldl (λcs q=>cs.setIfInBounds ((p.1*sz) +q.2) q.1) cs).toList (setAt ds (p.1*sz) (ev σ p.2).cells):=
     ES (cells:=cs) (nv:=(a.eval p.2).cells.toList) (by omega) h3 (by omega) c2 (by omega) (λk=>by
      grind)
    obtain⟨cs',b,J,L,M,O,Q⟩:=Tt sz N parts rest (λq s=>u q (by grind)) c _ _ h (by simp_all [qJ]) (by grind [pS]) l j;grind
   grind
def mr{z:List Value}(h:z.all (λx=>match x with| .string s=>decide (s.size<=1000000)| .bool _| .int _ _| .pointer _| .slice _ _ _| .nilFunc| .map _=>true|_=>false)=true)(h1:z.all (·.oneCell')=true):ba (R tp I w) z (z.map yy):=by
 intro k y c b hc;rw[qFP,b]at hc;cases hc;have hm:=qFF b;refine⟨qFI.1 h1 y hm,qpR y (λs hs=>?_)⟩;have:=qFI.1 h y hm;subst hs;have:s.size<=1000000:=by grind
 grind [maxLen]
def eO{t:TypeId}{z:List Value}(h:cj P t=some z):∃i b,P.info? t=some i/\i.zero=some b/\b.cells.toList=z/\i.size=z.length/\z.all (·.oneCell')=true/\
 z.all (λx=>match x with| .string s=>decide (s.size<=1000000)| .bool _| .int _ _| .pointer _| .slice _ _ _| .nilFunc| .map _=>true|_=>false)=true:=by
 unfold cj at h;simp only[qFD,qFA]at h;grind
theorem qcs{t:TypeId}{parts:Array (Nat×Operand)}{fs:Array Field}{z:List Value}{s:List (Nat×Nat×Operand)}(ho:o.op= .build t parts)(hz:cj P t=some z)(ht:P.underlying t=some (.struct fs))
 (u:parts.toList.mapM (λp=>do
   let f <-fs[p.1]?
   let sz <-cF P f.type
   if f.offset+sz<=z.length then some (f.offset,sz,p.2)else none)=some s)
 (d:fs.toList.all (λf=>(cF P f.type).isSome)=true) (J:∀p∈parts.toList,R tp I w (a.eval p.2) (ev σ p.2)) {H:ab} (A:am (.build z s) σ H K):Good P o a tp I w K:=by
 simp only[am]at A;obtain⟨i,L,hi,M,N,O,Q,S⟩:=eO hz;have places:∀(l:List Field),l.all (λf=>(cF P f.type).isSome)=true->∃pl,l.mapM (λf=>(P.info? f.type).map λi=>(f.offset,i.size))=some pl/\∀(i:Nat) (f:Field) (sz:Nat),l[i]? =some f->cF P f.type=some sz->pl[i]? =some (f.offset,sz):=by
  intro l
  induction l with
  |nil=>simp
  | cons f l U=>
    intro h;simp only[qHo,qFJ]at h;obtain⟨pl,e1,e2⟩:=U h.2;obtain⟨sz,hs⟩:=qGB.1 h.1;have q:=hs;unfold cF at q;obtain⟨ii,W,C⟩:=bb q;refine⟨(f.offset,sz)::pl,by grind,λj g sg hj hg=>?_⟩;grind
 obtain⟨pl,E,r⟩:=places fs.toList d;obtain⟨cs',b,r1,r2,r3,F,Y⟩:=ZT (P:=P) (fs:=fs) (places:=pl) (λi f sz h1 h2=>r i f sz (by grind) h2) z.length parts.toList s J u L.cells (z.map yy) _ (by grind) (by simp) (by grind [ba,cj,mr]) A;have hb:P.built t (parts.map λ(i,x)=>(i,a.eval x)).toList=some cs':=by
  simp_all [Program.built]
 refine⟨.agg cs', .agg b,by simp_all [execOp,run_build],?_,Y⟩;have:=R.agg (tp:=tp) (I:=I) (w:=w) cs'.toList b (by grind) (λx Z=>?_) (λk x c h1 h2=>(F k x c h1 h2).2);omega
 ·obtain⟨k,hk⟩:=qF3.1 Z;have y:k<b.length:=by
   grind
  exact(F k x _ hk (qFC y)).1
def GoodN(P:Program)(o:Oper)(a:Act)(E:CO)(tp:Nat->Prop)(H:ab)(w:World)(K:D->Prop):Prop:=
 ∃x d w',(execOp a.eval o).run P w= .ok (.value x) w'/\GrB w w' none/\(StW E tp H w'->(∀y e,R tp (aR E.O tp H w) w y e->R tp (aR E.O tp H w') w' y e)->R tp (aR E.O tp H w') w' x d)/\K d
theorem ZJ{t el:TypeId}{parts:Array (Nat×Operand)}{len sz:Nat}{z:List Value}{h:List (Nat×Nat×Operand)}(ho:o.op= .build t parts)(hz:cj P t=some z)(Q:P.underlying t=some (.array len el))(hs:cF P el=some sz)
 (j:parts.toList.mapM (λp=>if p.1*sz+sz<=z.length then some (p.1*sz,sz,p.2)else none)=some h)
 (u:∀p∈parts.toList,R tp I w (a.eval p.2) (ev σ p.2)) {H:ab} (r:am (.build z h) σ H K):Good P o a tp I w K:=by
 simp only[am]at r;obtain⟨i,y,hi,A,C,E,F,J⟩:=eO hz;have d:=hs;unfold cF at d;obtain⟨L,M,l⟩:=bb d;subst l;obtain⟨cs',b,S,U,W,s,N⟩:=Tt L.size z.length parts.toList h u j y.cells (z.map yy) _ (by grind) (by simp) (by grind [ba,cj,mr]) r;have hb:P.built t (parts.map λ(i,x)=>(i,a.eval x)).toList=some cs':=by
  simp_all [Program.built]
 refine⟨.agg cs', .agg b,by simp_all [execOp,run_build],?_,N⟩;have:=R.agg (tp:=tp) (I:=I) (w:=w) cs'.toList b (by grind) (λx O=>?_) (λk x c h1 h2=>(s k x c h1 h2).2);omega
 ·obtain⟨k,hk⟩:=qF3.1 O;have q:k<b.length:=by
   grind
  exact(s k x _ hk (qFC q)).1
def Good.toN{E:CO}{H:ab}(h:Good P o a tp (aR E.O tp H w) w K):GoodN P o a E tp H w K:=by
 grind [GoodN,Good,gG]
def qec{E:CO}{H:ab}{ob:Obj}(b:StW E tp H w):aR E.O tp H (w.alloc ob) w.heap.size:=by
 have c:E.w0.heap.size<=w.heap.size:=b.step.size;refine⟨by simp,λh=>by have:=b.hO _ h;omega,λh=>by grind [StW],λ⟨i,r,h1,h2⟩=>by have:=(b.sat.ok i r h1).lt h2;omega⟩
def qgI{el:TypeId}{x:Operand}{E:CO}{H:ab}(c:StW E tp H w)(ho:o.op= .box el x)(j:R tp (aR E.O tp H w) w (a.eval x) (ev σ x))(b:am (.box el true x) σ H K):GoodN P o a E tp H w K:=by
 simp only[am]at b;obtain⟨hk,b⟩:=b;refine⟨.pointer (some ⟨w.heap.size,0,none⟩),_,w.alloc (.cells (a.eval x).cells el),by simp[execOp,ho,Instr.box,newVar,newRow],GrB.alloc _ _ _,λd m=>?_,b⟩;obtain⟨c1,c2⟩:=(m _ _ j).cells hk;have h:(w.alloc (.cells (a.eval x).cells el)).heap[w.heap.size]? =some (.cells (a.eval x).cells el (0,0)):=heap_alloc_new _ _;obtain⟨f,k,l,p⟩:=tq h (by omega) c2;have:=R.cptr (tp:=tp) w.heap.size 0 (ev σ x).cells 0 f (qec c) (λ_=>⟨_,_,h⟩) k l p;omega
theorem P0{n:Nat} :∀(vs:List Value) (s:Nat) (cells:Array Value),(∀v∈vs,v.cells.size=n)->(s+vs.length) *n<=cells.size->
 ∃b,Instr.fill (λi=>some (i*n,n)) cells ((List.range' s vs.length).zip vs)=some b/\b.size=cells.size/\(∀k,k<s*n->b[k]? =cells[k]?)/\
  ∀i j v,vs[i]? =some v->j<n->b[(s+i) *n+j]? =v.cells[j]?
 | [],s,cells,_,_=>⟨cells,rfl,rfl,λ_ _=>rfl,λi j v h=>by grind⟩
 | v::vs,s,cells,hn,d=>by
   have q:=hn v (by simp);simp only[qGi]at d;have c:s*n+n<=cells.size:=by
    grind
   have r:=K6 (place:=λi=>some (i*n,n)) (cells:=cells) (i:=s) (v:=v) (rest:=(List.range' (s+1) vs.length).zip vs) rfl q c;have l:=yu (s*n) v.cells.toList 0 cells;obtain⟨c',y,t,A,C⟩:=P0 vs (s+1) ((v.cells.toList.zipIdx 0).foldl (λcs p=>cs.setIfInBounds (s*n+p.2) p.1) cells) (λu x=>hn u (by grind)) (by
    rw[qJ];grind)
   refine⟨c',?_,by rw[t,qJ],λk hk=>?_,λi j u x E=>?_⟩;grind [qHF,List.zip_cons_cons];grind
   ·cases i<;>grind
def Bo{n:Nat} :∀{l:List D},nY n l->∀d∈l,d.kn=true/\d.cells.length=n
 | [],_,d,hd=>by grind
 | e::l,h,d,hd=>by
   rcases qFK.1 hd with rfl|hd;grind [nY]
   ·exact Bo h.2.2 d hd
def BL{n:Nat}(hn:0<n){es:List D}(h:∀d∈es,d.cells.length=n){k:Nat}{c:D}(hk:(bp es)[k]? =some c):∃d,es[k/n]? =some d/\d.cells[k % n]? =some c/\k % n<n/\k=k/n*n+k % n:=by
 have b:k % n<n:=qG3 _ hn;have he:k=k/n*n+k % n:=by grind [qGW]
 rw[he,dY h b]at hk;grind
theorem ZK{t el:TypeId}{n len:Nat}{parts:Array (Nat×Operand)}{W:List Operand}{E:CO}{H:ab}{z0:List Value}(Y:StW E tp H w)(ho:o.op= .buildSlice t len parts)(ht:P.underlying t=some (.slice el))(hs:cF P el=some n)
 (hz:cj P el=some z0) (u:zV parts len=some W) (hlim:len*n<=2^24) (hn:0<n) (Z:len≠0) (hr:∀x∈W,R tp (aR E.O tp H w) w (a.eval x) (ev σ x)) (Q:am (.bslice el n W) σ H K):GoodN P o a E tp H w K:=by
 simp only[am]at Q;obtain⟨hpv,Q⟩:=Q;unfold zV at u;split at u
 ·rename_i C;cases u;have hlen:parts.toList.length=len:=by
   have:=congrArg List.length C;grind
  obtain⟨i,S,hi,hzv,hzc,hsz,hz1,hz2⟩:=eO hz;have l:=Bo hpv;have hvs:∀v∈ (parts.toList.map (·.2)).map a.eval,v.cells.size=n:=by
   intro v hv';obtain⟨x,F,rfl⟩:=qFL.1 hv';have h1:=l (ev σ x) (qFL.2 ⟨x,F,rfl⟩);have:=((hr x F).cells h1.1).1;grind
  have hz0:z0.length=n:=by
   grind [StW,cj,cF]
  have J:¬(len*n=0):=by
   grind [StW,cF,cj,Nat.mul_eq_zero]
  obtain⟨b,r1,r2,r3,r4⟩:=P0 (n:=n) ((parts.toList.map (·.2)).map a.eval) 0 ((Array.range (len*n)).map (S.cells[· % S.cells.size]!)) hvs (by grind);have j:(List.range' 0 ((parts.toList.map (·.2)).map a.eval).length).zip ((parts.toList.map (·.2)).map a.eval)=parts.toList.map λp=>(p.1,a.eval p.2):=by
   have e1:List.range' 0 ((parts.toList.map (·.2)).map a.eval).length=parts.toList.map (·.1):=by
    grind [StW,cF,cj,qHJ]
   grind
  rw[j]at r1;have L:(Instr.buildSlice t len (parts.map λ(i,x)=>(i,a.eval x))).run P w= .ok (.slice (some ⟨w.heap.size,0,none⟩) len len) (w.alloc (.cells b el)):=by
   have hl:¬(16777216<len*n):=by omega
   have r1':Instr.fill (λi=>some (i*n,n)) ((Array.range (len*n)).map (S.cells[· % S.cells.size]!)) (parts.toList.map λp=>(p.1,a.eval p.2))=some b:=r1;simp[Instr.buildSlice,run_underlying ht,be hs,hl,J,zeroValue,typeInfo,hi,hzv,r1',newRow]
  refine⟨.slice (some ⟨w.heap.size,0,none⟩) len len,_,w.alloc (.cells b el),by simp[execOp,ho,L],GrB.alloc _ _ _,λhst' m=>?_,Q⟩;have A:∀d∈ (parts.toList.map (·.2)).map (ev σ),d.kn=true/\d.cells.length=n:=l;have h:((parts.toList.map (·.2)).map (ev σ)).length=len:=by simp[hlen]
  have hcell:∀(k:Nat) (c:D),(bp ((parts.toList.map (·.2)).map (ev σ)))[k]? =some c->∃y,b[k]? =some y/\y.oneCell'=true/\R tp (aR E.O tp H (w.alloc (.cells b el))) (w.alloc (.cells b el)) y c:=by
   intro k c hk;obtain⟨d,U,hdc,q,he⟩:=BL hn (λd U=>(A d U).2) hk;rw[qFP]at U;obtain⟨x,F,rfl⟩:=bb U;have M:x∈parts.toList.map (·.2):=qFF F;have hRx:=m _ _ (hr x M);have N:=A (ev σ x) (qFL.2 ⟨x,M,rfl⟩);obtain⟨c1,c2⟩:=hRx.cells N.1;have hvx:((parts.toList.map (·.2)).map a.eval)[k/n]? =some (a.eval x):=by rw[qFP,F];rfl
   have:=r4 (k/n) (k % n) _ hvx q;rw[qGn,<-he]at this;have hlt:k % n<(a.eval x).cells.toList.length:=by rw[c1,N.2];exact q
   have r:k % n<(a.eval x).cells.size:=by simpa using hlt
   refine⟨(a.eval x).cells[k % n],by rw[this];simp[r],?_⟩;exact c2 (k % n) _ c (by simp[r]) hdc
  have hgn:(w.alloc (.cells b el)).heap[w.heap.size]? =some (.cells b el (0,0)):=heap_alloc_new _ _
  suffices s:R tp (aR E.O tp H (w.alloc (.cells b el))) (w.alloc (.cells b el)) (.slice (some ⟨w.heap.size,0,none⟩) ((parts.toList.map (·.2)).map (ev σ)).length ((parts.toList.map (·.2)).map (ev σ)).length) (.list n ((parts.toList.map (·.2)).map (ev σ)))by
   rw[h]at s;exact s
  refine .list w.heap.size 0 _ n _ (λk=>b.getD k undef) (qec Y) (qFH _) (by rw[h];have:len<=len*n:=qHx _ hn;simp only[maxLen];omega) (λ_=>⟨_,_,hgn⟩) A (λk c hk=>?_) (λk c hk=>?_) (λk c hk=>?_)
  all_goals
   obtain⟨y,h1,h2,h3⟩:=hcell k c hk;have hgd:b.getD k undef=y:=by
    rw[qGu,h1];rfl
   try dsimp only
   rw[hgd]
  simp_all;omega;omega
 grind
end
def lG{l nv:List Value}{off:Nat}(h:off+nv.length<=l.length)(k:Nat):(l.take off++nv++l.drop (off+nv.length))[k]? =if off<=k/\k<off+nv.length then nv[k -off]? else l[k]?:=by
 have b:(l.take off).length=off:=by grind
 grind
def vu{Q:Value->D->Prop}{xs:List Value}{ds new:List D}{nv:List Value}{off:Nat}(hl:xs.length=ds.length)(h:ba Q xs ds)(hn:nv.length=new.length)(j:ba Q nv new)
 (b:off+new.length<=ds.length):ba Q (xs.take off++nv++xs.drop (off+nv.length)) (setAt ds off new):=by
 intro k y c d hc;rw[Ko b]at hc;rw[lG (by omega),hn]at d;split at hc
 ·rename_i hk;rw[if_pos hk]at d;grind [ba]
 ·rename_i hk;rw[if_neg hk]at d;grind [ba]
def qH(w:World)(g:Nat)(cs:Array Value):GrB w (w.setRow g cs) (some g):=
 ⟨⟨rfl,rfl,rfl,by simp,λk _ hk=>setRow_other w g k cs (λe=>hk (by rw[e]))⟩,qFH _⟩
section
variable {P:Program}{o:Oper}{a:Act}{tp I:Nat->Prop}{w:World}{σ:Sg}{K:D->Prop}
theorem qks{n:Nat}(hn:0<n){es:List D}(h:∀d∈es,d.cells.length=n){i off:Nat}{d e:D}{new:List D}(hi:es[i]? =some d)(he:e.cells=setAt d.cells off new)(t:off+new.length<=n):
 bp (es.set i e)=setAt (bp es) (i*n+off) new:=by
 have l:i<es.length:=(qFB.1 hi).1;have F:=h d (qFF hi);have A:e.cells.length=n:=by grind [pS]
 have u:∀x∈es.set i e,x.cells.length=n:=λx J=>by
  grind
 have C:=bh h;have y:=bh u;have p:(i+1) *n<=es.length*n:=qF2 n l;rw[qGG]at p;apply qGj;intro k;have b:k % n<n:=qG3 _ hn;have hk:k=k/n*n+k % n:=by grind [qGW]
 have c:i*n+off+new.length<=(bp es).length:=by omega
 rw[hk,dY u b,List.getElem?_set,Ko c];generalize L:k/n=q;generalize E:k % n=r;rw[E]at b;by_cases j:i=q
 ·subst j;simp only[if_true,l,qFW,he];rw[Ko (by omega),dY h b,hi];grind
 ·rw[if_neg j,dY h b];rcases Nat.lt_or_gt_of_ne j with s|hgt
  ·have:i*n+n<=q*n:=by rw[<-qGG];exact qF2 n s
   grind
  ·have:q*n+n<=i*n:=by rw[<-qGG];exact qF2 n hgt
   grind
def Ic{t:TypeId}{sz:Nat}(hs:cF P t=some sz){v:Value}(h:v.cells.size=sz){b off el:Nat}{cur:Array Value}(d:w.heap[b]? =some (.cells cur el (0,0)))(c:off+sz<=cur.size)(h1:∀x∈v.cells.toList,x.oneCell'=true):
 (storeVar t ⟨b,off,none⟩ v).run P w= .ok () (w.setRow b (cur.toList.take off++v.cells.toList++cur.toList.drop (off+v.cells.toList.length)).toArray):=by
 have:=run_storeCells_at P b off el v.cells.toList 0 cur w d (by grind) h1;simp_all [storeVar,be]
theorem qaB(t A ty e:TypeId)(i:TypeInfo)(z:Value)(F:P.underlying t=some (.slice e))(hi:P.info? e=some i)(hz:i.zero=some z)(J:z.cells.size=i.size)
 (v:Value) (n:Nat) (xs:List Value) (c:w.ownsRow 0 e i.size v n xs) (x:Value) (m:Nat) (news:List Value) (hs:Src P i.size A x m news w)
 (O:n+m<=140737488355328) (l:(n+m) *i.bytes<=140737488355328):
 ∃v' w',(Builtin.append_ #[t,A] ty #[v,x]).run P w= .ok v' w'/\w'.ownsRow 0 e i.size v' (n+m) (xs++news)/\GrB w w' v.ownBlock/\(∀b,v'.ownBlock=some b->w.heap.size<=b\/v.ownBlock=some b):=by
 have hl:=hs.newsLen;have hlen:(xs++news).length=(n+m) *i.size:=by rw[qF5,c.1,hl,qHb]
 have p:∀(d:Nat),d<n+m->∀(row:Option Nat),
  (w.drew.alloc (.cells ((xs++news).toArray++Builtin.zeroCells z.cells (grownCap w (n+m) d e - (n+m))) e)).ownsRow 0 e i.size
    (.slice (some ⟨w.heap.size,0,none⟩) (n+m) (grownCap w (n+m) d e)) (n+m) (xs++news)/\
  GrB w (w.drew.alloc (.cells ((xs++news).toArray++Builtin.zeroCells z.cells (grownCap w (n+m) d e - (n+m))) e)) row:=by
  intro d _ row;have L:=grownCap_ge w (n+m) d e;have r:grownCap w (n+m) d e<=maxLen:=grownCap_le_maxLen w (n+m) d e (by grind [maxLen]);refine⟨⟨hlen, .inr ⟨w.heap.size,_,_,rfl,qFY _,heap_alloc_new w.drew _,L,r,?_,?_⟩⟩,⟨⟨rfl,rfl,rfl,by simp,λk hk _=>qHX w.drew _ k hk⟩,qGV _⟩⟩
  ·simp only[qIa,qG9,size_zeroCells,J,hlen,<-qHb];grind
  grind
 rcases c.2 with⟨rfl,rfl⟩|⟨g,cap,cur,rfl,Q,N,S,r,M,s⟩
 ·have U:xs=[]:=qFU (by grind);subst U;by_cases hm:m=0
  ·subst hm;have hn:news=[]:=qFU (by simpa using hl);subst hn;refine⟨.slice none 0 0,w,?_,by simpa using c,gG _ _,λb hb=> .inr hb⟩;have hc:=hs.cells;rcases hs.kind with⟨W,hk⟩|hk<;>simp[Builtin.append_,run_underlying F,run_underlying hk,sizeOf,typeInfo,hi,hs.len,hc]
  ·have y:=run_append_grow_src (P:=P) w t A ty e i z F hi hz none 0 0 [] (by simpa using run_firstCells_none w.drew i.size 0 0 0) x m news hs (by omega) (by omega) (growslice_fits (by omega) (by simpa using l));have q:=p 0 (by omega) (Value.ownBlock (.slice none 0 0));simp only[qGn,qGz]at q y ⊢;exact⟨_,_,y,q.1,q.2,λb hb=> .inl (by simp[Value.ownBlock]at hb;omega)⟩
 ·by_cases h:n+m<=cap
  ·have C:n*i.size+news.length<=cur.size:=by rw[hl,M,<-qHb];exact qF2 _ h
   have E:=run_storeCells_at P g (n*i.size) e news 0 cur w N C hs.one;simp only[qGN]at E;have y:(Builtin.append_ #[t,A] ty #[.slice (some ⟨g,0,none⟩) n cap,x]).run P w= .ok (.slice (some ⟨g,0,none⟩) (n+m) cap) (w.setRow g (cur.toList.take (n*i.size) ++news++cur.toList.drop (n*i.size+news.length)).toArray):=by
    rcases hs.kind with⟨W,hk⟩|hk<;>simp[Builtin.append_,run_underlying F,run_underlying hk,sizeOf,typeInfo,hi,hs.len,h,hs.cells,Addr.add_lit,E]
   refine⟨_,_,y,⟨hlen, .inr ⟨g,cap,_,rfl,qFY _,setRow_heap w g cur _ e _ N,h,r,?_,?_⟩⟩,qH _ _ _,λb hb=> .inr hb⟩
   ·simp only[qG9,qF5,qF7,qGO,qGm];omega
   ·rw[s,<-hlen];exact List.take_left
  ·have holds:∀j u,xs[j]? =some u->w.cell? ((⟨g,0,none⟩:Addr).add j)=some u:=c.cells (g:=g) rfl;have y:=run_append_grow_src (P:=P) w t A ty e i z F hi hz (some ⟨g,0,none⟩) n cap xs (run_firstCells_some w.drew i.size n ⟨g,0,none⟩ n cap xs c.1 (by simpa using holds)) x m news hs (by omega) (by omega) (growslice_fits (by omega) l);have q:=p cap (by omega) (Value.ownBlock (.slice (some ⟨g,0,none⟩) n cap));exact⟨_,_,y,q.1,q.2,λb hb=> .inl (by simp[Value.ownBlock]at hb;omega)⟩
end
def dj(P:Program)(o:Oper)(a:Act)(E:CO)(tp:Nat->Prop)(H:ab)(w:World)(K:D->ab->Prop):Prop:=
 ∃b x d H' w',(execOp a.eval o).run P w= .ok b w'/\(b= .value x\/(b= .skip/\x=Go.undef))/\
  (StW E tp H' w'/\∀y e,R tp (aR E.O tp H w) w y e->R tp (aR E.O tp H' w') w' y e)/\R tp (aR E.O tp H' w') w' x d/\K d H'
section
variable {P:Program}{o:Oper}{a:Act}{E:CO}{tp:Nat->Prop}{H:ab}{w:World}{σ:Sg}
def GoodN.og{c:D->Prop}{K:D->ab->Prop}(b:StW E tp H w)(h:GoodN P o a E tp H w c)(hk:∀d,c d->K d H):dj P o a E tp H w K:=by
 obtain⟨x,d,w',h1,h2,h3,h4⟩:=h;have hm:=b.grow h2;exact⟨_,x,d,H,w',h1, .inl rfl,hm,h3 hm.1 hm.2,hk d h4⟩
def qz{t:Nat}{ob:Obj}{r':Res}(c:StW E tp H w)(hb:∀b,r'.blk=some b->b=w.heap.size)
 (h:(∀x d,R tp (aR E.O tp H w) w x d->R tp (aR E.O tp (ai H t (some r')) (w.alloc ob)) (w.alloc ob) x d)->ResOk (R tp (aR E.O tp (ai H t (some r')) (w.alloc ob)) (w.alloc ob)) (w.alloc ob) r'):
 StW E tp (ai H t (some r')) (w.alloc ob)/\∀x d,R tp (aR E.O tp H w) w x d->R tp (aR E.O tp (ai H t (some r')) (w.alloc ob)) (w.alloc ob) x d:=
 c.own t (some r') (GrB.alloc w ob none) (λb hb=>by grind) (λr b h1 h2=>by grind) (λm r h1=>by grind)
def qjq{el t:Nat}{z:List Value}{K:D->ab->Prop}(c:StW E tp H w)(ho:o.op= .alloc el)(hz:cj P el=some z)(h:∀b,K (.bptr t b 0) (ai H t (some (.box b (z.map yy))))):dj P o a E tp H w K:=by
 obtain⟨i,d,hi,j,k,l,p,q⟩:=eO hz;refine⟨_, .pointer (some ⟨w.heap.size,0,none⟩), .bptr t w.heap.size 0,_,w.alloc (.cells d.cells el),?_, .inl rfl,qz (r':= .box w.heap.size (z.map yy)) c (λb hb=>by cases hb;rfl) (λm=>?_), .bptr _ _ _,h _⟩;simp_all [execOp,Instr.alloc,zeroValue,typeInfo,newVar,newRow]
 ·exact⟨d.cells,el,heap_alloc_new _ _,by grind,by grind [ba,StW,cj,mr]⟩
def qrv{el t:Nat}{x:Operand}{K:D->ab->Prop}(c:StW E tp H w)(ho:o.op= .box el x)(h:R tp (aR E.O tp H w) w (a.eval x) (ev σ x))(d:(ev σ x).kn=true)(j:∀b,K (.bptr t b 0) (ai H t (some (.box b (ev σ x).cells)))):dj P o a E tp H w K:=by
 refine⟨_, .pointer (some ⟨w.heap.size,0,none⟩), .bptr t w.heap.size 0,_,w.alloc (.cells (a.eval x).cells el),?_, .inl rfl,qz (r':= .box w.heap.size (ev σ x).cells) c (λb hb=>by cases hb;rfl) (λm=>?_), .bptr _ _ _,j _⟩;simp_all [execOp,Instr.box,newVar,newRow]
 ·obtain⟨c1,c2⟩:=(m _ _ h).cells d;exact⟨(a.eval x).cells,el,heap_alloc_new _ _,by omega,c2⟩
def qrs{el t:Nat}{x:Operand}{K:D->ab->Prop}(c:StW E tp H w)(ho:o.op= .box el x)(h:R tp (aR E.O tp H w) w (a.eval x) (ev σ x))(d:(ev σ x).kn=true)(j:∀b,K (.bptr t b 0) (ai H t (some (.tbox el b (ev σ x).cells)))):dj P o a E tp H w K:=by
 refine⟨_, .pointer (some ⟨w.heap.size,0,none⟩), .bptr t w.heap.size 0,_,w.alloc (.cells (a.eval x).cells el),?_, .inl rfl,qz (r':= .tbox el w.heap.size (ev σ x).cells) c (λb hb=>by cases hb;rfl) (λm=>?_), .bptr _ _ _,j _⟩;simp_all [execOp,Instr.box,newVar,newRow]
 ·obtain⟨c1,c2⟩:=(m _ _ h).cells d;exact⟨(a.eval x).cells,heap_alloc_new _ _,by omega,c2⟩
theorem qf4{el n t:Nat}{ty:TypeId}{parts:Array (Nat×Operand)}{z:List Value}{K:D->ab->Prop}(j:StW E tp H w)(ho:o.op= .buildSlice ty 0 parts)(C:P.underlying ty=some (.slice el))(hs:cF P el=some n)(hz:cj P el=some z)(l:zV parts 0=some [])
 (p:∀x,K (.own t x) (ai H t (some (.row x el n [])))):dj P o a E tp H w K:=by
 have hp:parts= #[]:=by
  simp_all [zV]
 obtain⟨i,F,hi,q,r,s,u,A⟩:=eO hz;have d:∀(w':World) (b:Nat),w'.heap[b]? =some (.cells #[] el (0,0))->w'.ownsRow 0 el n (.slice (some ⟨b,0,none⟩) 0 0) 0 []:=λw' b hb=>
  ⟨by simp, .inr ⟨b,0, #[],rfl,qFY _,hb,qFH _,qFY _,by simp,by simp⟩⟩
 refine⟨_, .slice (some ⟨w.heap.size,0,none⟩) 0 0, .own t (.slice (some ⟨w.heap.size,0,none⟩) 0 0),_,w.alloc (.cells #[] el),?_, .inl rfl,qz (r':= .row (.slice (some ⟨w.heap.size,0,none⟩) 0 0) el n []) j (λb hb=>by cases hb;rfl) (λm=>?_), .own _ _ rfl,p _⟩;simp_all [execOp,Instr.buildSlice,Instr.fill,newRow,Array.range_zero',run_underlying,be]
 ·exact⟨[],d _ _ (heap_alloc_new _ _),by simp,λk y c h=>by grind⟩
theorem qf5{ty el:TypeId}{n len t:Nat}{parts:Array (Nat×Operand)}{M:List Operand}{z0:List Value}{K:D->ab->Prop}(S:StW E tp H w)(ho:o.op= .buildSlice ty len parts)(ht:P.underlying ty=some (.slice el))(hs:cF P el=some n)
 (hz:cj P el=some z0) (s:zV parts len=some M) (hlim:len*n<=2^24) (hn:0<n) (U:len≠0) (hr:∀x∈M,R tp (aR E.O tp H w) w (a.eval x) (ev σ x)) (W:nY n (M.map (ev σ)))
 (hv:∀x,K (.own t x) (ai H t (some (.row x el n (M.map (ev σ)))))):dj P o a E tp H w K:=by
 unfold zV at s;split at s
 ·rename_i q;cases s;have hlen:parts.toList.length=len:=by
   have:=congrArg List.length q;grind
  obtain⟨i,N,hi,Y,hzc,hsz,hz1,hz2⟩:=eO hz;have r:=Bo W;have Z:∀v∈ (parts.toList.map (·.2)).map a.eval,v.cells.size=n:=by
   intro v hv';obtain⟨x,A,rfl⟩:=qFL.1 hv';have h1:=r (ev σ x) (qFL.2 ⟨x,A,rfl⟩);have:=((hr x A).cells h1.1).1;grind
  have hz0:z0.length=n:=by
   grind [StW,cj,cF]
  have C:¬(len*n=0):=by
   grind [StW,cF,cj,Nat.mul_eq_zero]
  obtain⟨h,r1,r2,r3,r4⟩:=P0 (n:=n) ((parts.toList.map (·.2)).map a.eval) 0 ((Array.range (len*n)).map (N.cells[· % N.cells.size]!)) Z (by grind);have l:(List.range' 0 ((parts.toList.map (·.2)).map a.eval).length).zip ((parts.toList.map (·.2)).map a.eval)=parts.toList.map λp=>(p.1,a.eval p.2):=by
   have e1:List.range' 0 ((parts.toList.map (·.2)).map a.eval).length=parts.toList.map (·.1):=by
    rw[q,qHJ];simp[hlen]
   rw[e1,List.map_map,List.zip_map', ];rfl
  rw[l]at r1;have F:(Instr.buildSlice ty len (parts.map λ(i,x)=>(i,a.eval x))).run P w= .ok (.slice (some ⟨w.heap.size,0,none⟩) len len) (w.alloc (.cells h el)):=by
   have hl:¬(16777216<len*n):=by omega
   have r1':Instr.fill (λi=>some (i*n,n)) ((Array.range (len*n)).map (N.cells[· % N.cells.size]!)) (parts.toList.map λp=>(p.1,a.eval p.2))=some h:=r1;simp[Instr.buildSlice,run_underlying ht,be hs,hl,C,zeroValue,typeInfo,hi,Y,r1',newRow]
  have I:h.size=len*n:=by rw[r2];simp
  have u:∀d∈ (parts.toList.map (·.2)).map (ev σ),d.kn=true/\d.cells.length=n:=r;have j:((parts.toList.map (·.2)).map (ev σ)).length=len:=by simp[hlen]
  refine⟨_, .slice (some ⟨w.heap.size,0,none⟩) len len, .own t (.slice (some ⟨w.heap.size,0,none⟩) len len),_,w.alloc (.cells h el),by simp[execOp,ho,F], .inl rfl,
   qz (r':= .row (.slice (some ⟨w.heap.size,0,none⟩) len len) el n ((parts.toList.map (·.2)).map (ev σ))) S (λb hb=>by cases hb;rfl) (λm=>?_), .own _ _ rfl,hv _⟩
  refine⟨h.toList,⟨?_, .inr ⟨w.heap.size,len,h,by rw[j],qFY _,heap_alloc_new _ _,by rw[j];exact qFH _,by have:len<=len*n:=qHx _ hn;simp only[maxLen];omega,I,?_⟩⟩,u,?_⟩;grind;grind [StW,cF,cj,qGy]
  ·intro k y c hy hk;obtain⟨d,Q,hdc,J,he⟩:=BL hn (λd Q=>(u d Q).2) hk;rw[qFP]at Q;obtain⟨x,A,rfl⟩:=bb Q;have L:x∈parts.toList.map (·.2):=qFF A;have hRx:=m _ _ (hr x L);have hkx:=u (ev σ x) (qFL.2 ⟨x,L,rfl⟩);obtain⟨c1,c2⟩:=hRx.cells hkx.1;have hvx:((parts.toList.map (·.2)).map a.eval)[k/n]? =some (a.eval x):=by rw[qFP,A];rfl
   have:=r4 (k/n) (k % n) _ hvx J;rw[qGn,<-he]at this;have hy':h[k]? =some y:=by simpa using hy
   rw[hy']at this;exact c2 (k % n) y c (by simpa using this.symm) hdc
 grind
def RS{z:List Value}(hz:0<z.length)(N k:Nat)(hk:k<N):(madeCells z.toArray N)[k]? =z[k % z.length]?:=by
 have hm:k % z.length<z.length:=qG3 _ hz;grind [madeCells]
theorem qb9{el n t:Nat}{ty:TypeId}{agg:Bool}{z:List Value}{lo co:Operand}{U W:IntKind}{l c:Int}{K:D->ab->Prop}(C:StW E tp H w)(ho:o.op= .makeSlice ty lo co)(ht:P.underlying ty=some (.slice el))(hs:cF P el=some n)(hz:cj P el=some z)
 (hn:0<n) (Y:(agg||n=1)=true) (hl:a.eval lo= .int U l) (hc:a.eval co= .int W c) (h0:0<=l) (F:l<=c) (hb:(P.bytesOf el:Int) *c<=140737488355328) (h63:c<=140737488355328)
 (Z:∀x,K (.own t x) (ai H t (some (.row x el n (List.replicate l.toNat (if agg then .agg (z.map yy)else yy (z.headD (.bool false)))))))):dj P o a E tp H w K:=by
 obtain⟨i,I,hi,J,hzc,hsz,L,M⟩:=eO hz;have hbi:i.bytes=P.bytesOf el:=by grind [Program.bytesOf]
 have N:i.size=n:=by
  grind [cF]
 have j:z.length=n:=by omega
 have hrun:=run_make (P:=P) w ty el i I ht hi J U W l c h0 F (by grind) (by omega);have p:I.cells=z.toArray:=by grind
 generalize hE:(if agg then D.agg (z.map yy)else yy (z.headD (.bool false)))=u at Z;have O:u.kn=true/\u.cells=z.map yy:=by
  rw[<-hE];cases agg with
  |true=>exact⟨rfl,rfl⟩
  | false=>
    have:n=1:=by grind
    match z,j with
    | [y],_=>
      grind [yy,D.kn,D.cells]
    | [],h=>grind
    | _::_::_,h=>grind
 have q:∀d∈List.replicate l.toNat u,d.kn=true/\d.cells.length=n:=λd A=>by
  grind
 refine⟨_, .slice (some ⟨w.heap.size,0,none⟩) l.toNat c.toNat, .own t (.slice (some ⟨w.heap.size,0,none⟩) l.toNat c.toNat),_,w.alloc (.cells (madeCells I.cells (c.toNat*i.size)) el),?_, .inl rfl,
  qz (r':= .row (.slice (some ⟨w.heap.size,0,none⟩) l.toNat c.toNat) el n (List.replicate l.toNat u)) C (λb hb=>by cases hb;rfl) (λm=>?_), .own _ _ rfl,Z _⟩
 grind [execOp,qF0,qFR,qF9]
 ·rw[N,p];refine⟨(madeCells z.toArray (c.toNat*n)).toList.take (l.toNat*n),⟨?_, .inr ⟨w.heap.size,c.toNat,madeCells z.toArray (c.toNat*n),by simp,qFY _,heap_alloc_new _ _,by simp;omega,by simp only[maxLen];omega,by simp[madeCells],by simp⟩⟩,q,?_⟩
  ·simp[madeCells];rw[show min l.toNat c.toNat=l.toNat by omega]
  ·intro k y c' r Q;obtain⟨d,A,s,hmod,he⟩:=BL hn (λd A=>(q d A).2) Q;have S:=qHW (qFF A);subst S;rw[O.2]at s;rw[qFX]at r;split at r
   ·rename_i hlt;have hle:l.toNat*n<=c.toNat*n:=qF2 n (by omega);rw[qFZ,RS (by omega) _ k (by omega),j]at r;exact mr M L (k % n) y c' r s
   ·cases r
theorem qjm{t:TypeId}{sz:Nat}{x y:Operand}{K:D->ab->Prop}(s:StW E tp H w)(ho:o.op= .store t x y)(hs:cF P t=some sz)
 (Q:R tp (aR E.O tp H w) w (a.eval x) (ev σ x)) (hy:R tp (aR E.O tp H w) w (a.eval y) (ev σ y)) {rt:Option Nat} (u:bK (.store rt sz x y) o.dst σ H K):dj P o a E tp H w K:=by
 simp only[bK]at u;obtain⟨S,hlen,u⟩:=u;obtain⟨c1,c2⟩:=hy.cells S;have F:(a.eval y).cells.size=sz:=by grind
 have A:∀q∈ (a.eval y).cells.toList,q.oneCell'=true:=λq U=>by
  obtain⟨k,hk⟩:=qF3.1 U;have hlt:k<(ev σ y).cells.length:=by grind
  exact(c2 k q _ hk (qFC hlt)).1
 generalize U:a.eval x=q at Q;split at u
 ·rename_i id b off e1;rw[e1]at Q;cases Q;split at u
  ·rename_i b' cells I;obtain⟨rfl,W,hk⟩:=u;obtain⟨xs,el,N,g2,J⟩:=s.sat.ok id _ I;have C:=Ic (P:=P) hs F (b:=b') (off:=off) N (by omega) A;have L:=setRow_heap w b' xs (xs.toList.take off++ (a.eval y).cells.toList++xs.toList.drop (off+ (a.eval y).cells.toList.length)).toArray el (0,0) N;refine⟨.skip,Go.undef, .undef,_,w.setRow b' (xs.toList.take off++ (a.eval y).cells.toList++xs.toList.drop (off+ (a.eval y).cells.toList.length)).toArray,?_, .inr ⟨rfl,rfl⟩,s.own id (some (.box b' (setAt cells off (ev σ y).cells))) (qH w b' _) (λb hb=>by cases hb;exact⟨_,I,rfl⟩) (λr b h1 h2=>by cases h1;cases h2;exact .inr ⟨_,I,rfl⟩) (λm r h1=>?_), .undef,hk⟩;simp_all [execOp,Instr.storeAt,Instr.sureAddr]
   ·cases h1;refine⟨_,el,L,?_,?_⟩;grind [StW,cF,pS]
    ·refine vu (by omega) (λk y c h1 h2=>⟨(J k y c h1 h2).1,m _ _ (J k y c h1 h2).2⟩) c1 (λk y c h1 h2=>⟨(c2 k y c h1 h2).1,m _ _ (c2 k y c h1 h2).2⟩) (by omega)
  grind
 ·rename_i id y' n i off e1;rw[e1]at Q;cases Q with
  | eptr _ b len cap _ _ _=>
    split at u
    ·rename_i x' el j es I;obtain⟨rfl,rfl,hn0,W,hi,hk⟩:=u;obtain⟨xs,⟨N,g2⟩,J,g4⟩:=s.sat.ok id _ I;have p:es[i]? =some es[i]:=by simp[hi]
     have hk:=hk _ p;have hdn:=(J _ (qFF p)).2;generalize hE:(if off=0/\sz=j then ev σ y else D.agg (setAt es[i].cells off (ev σ y).cells))=e0 at hk;have M:e0.kn=true/\e0.cells=setAt es[i].cells off (ev σ y).cells:=by
      rw[<-hE];split
      ·rename_i h;refine⟨S,?_⟩;have h1:off=0:=h.1;have h2:(ev σ y).cells.length=es[i].cells.length:=by omega
       simp[setAt,h1,h2]
      ·exact⟨rfl,rfl⟩
     rcases g2 with⟨h,_⟩|⟨g,cap',cur,hg,_,g5,g6,g7,g8,g9⟩
     ·cases h
     ·cases hg;have hle:(i+1) *j<=cap*j:=qF2 j (by omega);rw[qGG]at hle;have C:=Ic (P:=P) hs F (b:=b) (off:=i*j+off) g5 (by omega) A;have L:=setRow_heap w b cur (cur.toList.take (i*j+off) ++ (a.eval y).cells.toList++cur.toList.drop (i*j+off+ (a.eval y).cells.toList.length)).toArray el (0,0) g5;have hfl:=bh (es:=es) (λd p=>(J d p).2);have Y:(i+1) *j<=es.length*j:=qF2 j hi;rw[qGG]at Y;refine⟨.skip,Go.undef, .undef,_,w.setRow b (cur.toList.take (i*j+off) ++ (a.eval y).cells.toList++cur.toList.drop (i*j+off+ (a.eval y).cells.toList.length)).toArray,?_, .inr ⟨rfl,rfl⟩,
       s.own id (some (.row (.slice (some ⟨b,0,none⟩) es.length cap) el j (es.set i e0))) (qH w b _) (λq U=>by cases U;exact⟨_,I,rfl⟩) (λr q h1 h2=>by cases h1;cases h2;exact .inr ⟨_,I,rfl⟩) (λm r h1=>?_), .undef,hk⟩
      ·simp[execOp,ho,U,Instr.storeAt,Instr.sureAddr,C]
      ·cases h1;have l:(a.eval y).cells.toList.length=sz:=by simpa using F
       have hxs:xs.length=(bp es).length:=by rw[N,hfl]
       have htk:(cur.toList.take (i*j+off) ++ (a.eval y).cells.toList++cur.toList.drop (i*j+off+ (a.eval y).cells.toList.length)).take (es.length*j)=
        xs.take (i*j+off) ++ (a.eval y).cells.toList++xs.drop (i*j+off+ (a.eval y).cells.toList.length):=by
        apply qGj;intro k;rw[lG (by omega),qFX,lG (by simp;omega),l];by_cases h1:k<es.length*j
        ·rw[if_pos h1];by_cases h2:i*j+off<=k/\k<i*j+off+sz
         ·rw[if_pos h2,if_pos h2]
         ·rw[if_neg h2,if_neg h2,<-g9,qFX,if_pos h1]
        ·rw[if_neg h1,if_neg (by omega)];rw[qFV (by rw[N];omega)]
       have hnl:(xs.take (i*j+off) ++ (a.eval y).cells.toList++xs.drop (i*j+off+ (a.eval y).cells.toList.length)).length=es.length*j:=by
        simp only[qF5,qF7,qGO,l,N];omega
       have hml:(cur.toList.take (i*j+off) ++ (a.eval y).cells.toList++cur.toList.drop (i*j+off+ (a.eval y).cells.toList.length)).toArray.size=cap*j:=by
        simp only[qG9,qF5,qF7,qGO,l,qGm,g8];omega
       have Z:i*j+off+ (ev σ y).cells.length<=(bp es).length:=by omega
       refine⟨xs.take (i*j+off) ++ (a.eval y).cells.toList++xs.drop (i*j+off+ (a.eval y).cells.toList.length),⟨by rw[qH0];exact hnl, .inr ⟨b,cap,_,by rw[qH0],qFY _,L,by simpa using g6,g7,hml,by rw[qH0];exact htk⟩⟩,λd p=>?_,?_⟩
       ·rcases qGL p with p|rfl
        ·exact J d p
        ·exact⟨M.1,by rw[M.2,pS (by omega)];exact hdn⟩
       ·rw[qks hn0 (λd p=>(J d p).2) p M.2 (by omega)];exact vu hxs (λk y c h1 h2=>⟨(g4 k y c h1 h2).1,m _ _ (g4 k y c h1 h2).2⟩) c1 (λk y c h1 h2=>⟨(c2 k y c h1 h2).1,m _ _ (c2 k y c h1 h2).2⟩) Z
    ·exact u.elim
 grind
theorem Yb{n:Nat}{d:D}{x:Value}{K:List D->Prop}(Q:StW E tp H w)(hx:R tp (aR E.O tp H w) w x d)(hn:0<n)(A:pQ n d H K):
 ∃es,K es/\(∀d∈es,d.kn=true/\d.cells.length=n)/\∃(S:Option Addr) (c:Nat) (news:List Value),x= .slice S es.length c/\(S=none->es.length=0)/\news.length=es.length*n/\
  (∀a,S=some a->∀j u,news[j]? =some u->w.cell? (a.add j)=some u)/\(∀u∈news,u.oneCell'=true)/\ba (R tp (aR E.O tp H w) w) news (bp es):=by
 unfold pQ at A;split at A
 ·rename_i n' es;obtain⟨rfl,hk⟩:=A;cases hx with
  |nolist S cap _=>exact⟨[],hk,by simp,S,cap, [],rfl,λ_=>rfl,by simp,λ_ _ j u h=>by grind,by simp,λk y c h=>by grind⟩
  | list b off cap _ _ f hI hc hm _ U hcell s hr=>
    have C:=bh (es:=es) (λd F=>(U d F).2);have hc':∀k,k<es.length*n'->∃c,(bp es)[k]? =some c:=λk hk=>⟨(bp es)[k]'(by omega),qFC (by omega)⟩
    refine⟨es,hk,U,some ⟨b,off,none⟩,cap,(List.range (es.length*n')).map f,rfl,(λh=>by cases h),by simp,λa L j u r=>?_,λu r=>?_,λk y c M hc=>?_⟩
    ·cases L;rw[mj];grind
    grind;grind
 ·rename_i id y;cases hx with
  | own _ _ h1=>
    split at A
    ·rename_i x' el n' es hH;obtain⟨rfl,rfl,hk⟩:=A;obtain⟨xs,q,N,W⟩:=Q.sat.ok id _ hH;have s:∀u∈xs,u.oneCell'=true:=λu r=>by
      obtain⟨k,Y⟩:=qF3.1 r;have C:=bh (es:=es) (λd F=>(N d F).2);have t:k<(bp es).length:=by rw[C,<-q.1];exact(qFB.1 Y).1
      exact(W k u _ Y (qFC t)).1
     have I:=q;obtain⟨Z,g2⟩:=q;rcases g2 with⟨rfl,h⟩|⟨g,cap,cur,rfl,_⟩
     ·have:es=[]:=qFU h;subst this;exact⟨[],hk,by simp,none,0, [],rfl,λ_=>rfl,by simp,λ_ _ j u h=>by simp at h,by simp,λk y c h=>by simp at h⟩
     ·refine⟨es,hk,N,some ⟨g,0,none⟩,cap,xs,rfl,(λh=>by cases h),Z,λa L j u r=>?_,s,W⟩;cases L;exact I.cells rfl j u r
    grind
 ·have:=hx.inv_v;subst this;exact⟨[],A,by simp,none,0, [],rfl,λ_=>rfl,by simp,λ_ _ j u h=>by simp at h,by simp,λk y c h=>by simp at h⟩
 ·rename_i id y n' lo hi;split at A
  ·rename_i x' el l es hH;obtain⟨hxe,rfl,rfl,hk⟩:=A;subst hxe;obtain⟨xs,q,N,W⟩:=Q.sat.ok id _ hH;have C:=bh (es:=es) (λd F=>(N d F).2);obtain⟨Z,g2⟩:=q;cases hx with
   |subnil=>exact⟨_,hk,by simp,none,0, [],by simp,λ_=>by simp,by simp,λ_ _ j u h=>by simp at h,by simp,λk y c h=>by simp at h⟩
   | sub _ b len cap _ _ _ p h1 h2 h3 hm hp=>
     rcases g2 with⟨h,_⟩|⟨g,cap',cur,h,_,g5,g6,g7,g8,g9⟩
     ·cases h
     ·cases h;have hcell:=(show w.ownsRow 0 el l (.slice (some ⟨b,0,none⟩) es.length cap) es.length xs from⟨Z, .inr ⟨b,cap,cur,rfl,qFY _,g5,g6,g7,g8,g9⟩⟩).cells (g:=b) rfl;have hlen:((es.take hi).drop lo).length=hi -lo:=by simp;omega
      have hmul:(hi -lo) *l+lo*l=hi*l:=by rw[<-qHb];congr 1;omega
      have hmul2:hi*l<=es.length*l:=qF2 l h2;have J:∀(k:Nat) (c:D),(bp ((es.take hi).drop lo))[k]? =some c->(bp es)[lo*l+k]? =some c:=by
       intro k c hk;rw[Tq (n:=l) lo (λd F=>(N d (qF1 F)).2)]at hk;exact nK hk
      have s:∀(k:Nat) (u:Value),xs[k]? =some u->u.oneCell'=true:=λk u r=>by
       have t:k<(bp es).length:=by rw[C,<-Z];exact(qFB.1 r).1
       exact(W k u _ r (qFC t)).1
      refine⟨_,hk,λd F=>N d (qF1 (qGw F)),p,cap -lo,(xs.drop (lo*l)).take ((hi -lo) *l),by rw[hlen],λhpn=>?_,?_,λa L j u r=>?_,λu r=>?_,λk y c M hc=>?_⟩
      ·rw[hlen];by_cases t:lo<cap
       ·have:=hp (.inl t);rw[hpn]at this;cases this
       ·omega
      ·rw[hlen,qF7,qGO,Z];omega
      ·rw[qFX]at r;split at r
       ·rename_i hj;rw[qGx]at r;have t:lo<hi:=by
         rcases Nat.lt_or_ge lo hi with h|h
         ·exact h
         ·rw[Nat.sub_eq_zero_of_le h,Nat.zero_mul]at hj;omega
        have:=hp (.inl (by omega));rw[this]at L;cases L;have hc:=hcell _ u r;rw[mj]at hc ⊢;simpa using hc
       ·cases r
      ·obtain⟨j,hj⟩:=qF3.1 (qGw (qF1 r));exact s j u hj
      ·rw[qFX]at M;split at M
       ·rw[qGx]at M;exact W _ y c M (J k c hc)
       ·cases M
  ·exact A.elim
 grind
theorem qfC{n:Nat}{d:D}{x:Value}{A:TypeId}{K:List D->Prop}(C:StW E tp H w)(hk:(∃W,P.underlying A=some (.slice W))\/P.underlying A=some .string)(U:R tp (aR E.O tp H w) w x d)(hn:0<n)(r:yM n d H K):
 ∃es,K es/\(∀d∈es,d.kn=true/\d.cells.length=n)/\∃news:List Value,Src P n A x es.length news w/\ba (R tp (aR E.O tp H w) w) news (bp es):=by
 unfold yM at r;split at r
 ·rename_i s;obtain⟨rfl,r⟩:=r;have F:=U.inv_v;subst F;have hsl:(Kl s).length=s.size:=by
   simp[Kl]
  have I:bp (Kl s)=Kl s:=by
   unfold Kl bp
   induction s.data.toList with
   |nil=>rfl
   |cons b l Y=>rw[qF6,qGf,Y];rfl
  refine⟨Kl s,r,λd Z=>?_,byteCells s,⟨hk,λ_=>by rw[hsl];rfl,by grind [StW,firstCells_string],by rw[hsl];exact firstCells_string s w.drew,by rw[hsl,byteCells_length,Nat.mul_one],λu hu=>?_⟩,?_⟩
  ·obtain⟨b,_,rfl⟩:=qFL.1 Z;exact⟨rfl,rfl⟩
  ·obtain⟨_,_,rfl⟩:=qFL.1 hu;rfl
  ·rw[I];intro k y c J hc;unfold byteCells at J;unfold Kl at hc;rw[qFP]at J hc;obtain⟨b,hb,rfl⟩:=bb J;rw[hb]at hc;cases hc;exact⟨rfl, .int _ _⟩
 ·obtain⟨es,L,M,ao,c,news,N,Q,p,q,t,j⟩:=Yb C U hn r;refine⟨es,L,M,news,?_,j⟩;subst N;cases ao with
  | none=>
    have h0:=Q rfl;have S:news=[]:=qFU (by grind);subst S;rw[h0];exact⟨hk,λ_=>rfl,run_firstCells_none w n 0 0 c,run_firstCells_none w.drew n 0 0 c,by simp,λ_ h=>by cases h⟩
  |some ad=>exact⟨hk,λ_=>rfl,run_firstCells_some w n es.length ad es.length c news p (q ad rfl),run_firstCells_some w.drew n es.length ad es.length c news p (by simp_all),p,t⟩
def QS{Q:Value->D->Prop}{xs b:List Value}{as d:List D}(h:xs.length=as.length)(h1:ba Q xs as)(h2:ba Q b d):ba Q (xs++b) (as++d):=by
 intro k y c j hc;by_cases hk:k<xs.length;grind [ba];grind [ba]
theorem ST{t tx el:TypeId}{n bytes:Nat}{z:List Value}{c:Call}{x y:Operand}{K:D->ab->Prop}(I:StW E tp H w)(ho:o.op= .call c)(hc:c.callee= .builtin .append)(S:c.argTypes.toList=[t,tx])(C:c.args.toList=[x,y])
 (ht:P.underlying t=some (.slice el)) (htx:(∃e',P.underlying tx=some (.slice e'))\/P.underlying tx=some .string) (hs:cF P el=some n) (hz:cj P el=some z) (hby:P.bytesOf el=bytes) (hn:0<n)
 (M:R tp (aR E.O tp H w) w (a.eval x) (ev σ x)) (Q:R tp (aR E.O tp H w) w (a.eval y) (ev σ y)) {rt:Option Nat} (l:bK (.append rt el n bytes x y) o.dst σ H K):dj P o a E tp H w K:=by
 obtain⟨cl,⟨args⟩,⟨ats⟩⟩:=c;simp only at S C hc;subst S;subst C;subst hc;simp only[bK]at l;obtain⟨es2,l,U,news,W,s⟩:=qfC I htx Q hn l;obtain⟨i,zv,hi,hzv,hzc,hsz,hz1,hz2⟩:=eO hz;have N:i.size=n:=by
  grind [cF]
 have hbi:i.bytes=bytes:=by grind [Program.bytesOf]
 have hzs:zv.cells.size=i.size:=by grind
 generalize hq:a.eval x=q at M;have main:∀(id:Nat) (v:Value) (es:List D) (xs:List Value),q=v->w.ownsRow 0 el n v es.length xs->(∀d∈es,d.kn=true/\d.cells.length=n)->ba (R tp (aR E.O tp H w) w) xs (bp es)->
  (∀b,v.ownBlock=some b->∃r,H id=some r/\r.blk=some b)->(es.length+es2.length) *bytes<=140737488355328->es.length+es2.length<=140737488355328->
  (∀v',K (.own id v') (ai H id (some (.row v' el n (es++es2)))))->dj P o a E tp H w K:=by
  intro id v es xs hqv j J Y L u A hk;obtain⟨v',w',r1,r2,r3,r4⟩:=qaB (P:=P) t tx o.type el i zv ht hi hzv hzs v es.length xs (by rw[N];exact j) (a.eval y) es2.length news (by rw[N];exact W) A (by rw[hbi];exact u);rw[N]at r2;have hfl:=bh (es:=es) (λd hd=>(J d hd).2);have hv1:v'.oneCell'=true:=by
   rcases r2.2 with⟨rfl,_⟩|⟨g,cap,cur,rfl,_⟩ <;>rfl
  refine⟨.value v',v', .own id v',_,w',?_, .inl rfl,I.own id (some (.row v' el n (es++es2))) r3 L (λr b h1 h2=>?_) (λm r h1=>?_), .own _ _ hv1,hk v'⟩
  ·simp[execOp,ho,resolve,invoke,builtin,hq,hqv,r1]
  ·cases h1;rcases r4 b h2 with h3|h3
   ·exact .inl h3
   ·exact .inr (L b h3)
  ·cases h1;refine⟨xs++news,by rw[qF5];exact r2,λd hd=>?_,?_⟩
   ·rcases qFG.1 hd with hd|hd
    ·exact J d hd
    ·exact U d hd
   ·rw[ub];exact QS (by rw[j.1,hfl]) (λk y c h1 h2=>⟨(Y k y c h1 h2).1,m _ _ (Y k y c h1 h2).2⟩) (λk y c h1 h2=>⟨(s k y c h1 h2).1,m _ _ (s k y c h1 h2).2⟩)
 split at l
 ·rename_i id v Z;rw[Z]at M;cases M with
  | own _ _ h1=>
    split at l
    ·rename_i x' el' n' es hH;obtain⟨rfl,rfl,rfl,u,A,hk⟩:=l;obtain⟨xs,j,g3,g4⟩:=I.sat.ok id _ hH;exact main id x' es xs rfl j g3 g4 (λb hb=>⟨_,hH,hb⟩) u A hk
    ·exact l.elim
 ·rename_i Z;rw[Z]at M;have:=M.inv_v;split at l
  ·rename_i t' hd;exact main t' (.slice none 0 0) [] [] this (qHa _ _ _ _) (by simp) (λk y c h=>by simp at h) (λb hb=>by simp[Value.ownBlock]at hb) (by simpa using l.1) (by simpa using l.2.1) (by simpa using l.2.2)
  ·exact l.elim
 ·rename_i id y n' lo up Z;rw[Z]at M;split at l
  ·rename_i x' el' F es hH;obtain⟨hxe,rfl,rfl,rfl,rfl,u,A,hk⟩:=l;subst hxe;obtain⟨xs,j,g3,g4⟩:=I.sat.ok id _ hH;have hlen:(es.take up).length<=up:=by simp;omega
   cases M with
   | subnil=>
     have J:es=[]:=by
      rcases j.2 with⟨_,h⟩|⟨g,cap,cur,h,_⟩
      ·exact qFU h
      ·cases h
     subst J;exact main id (.slice none 0 0) [] [] rfl (qHa _ _ _ _) (by simp) (λk y c h=>by simp at h) (λb hb=>by simp[Value.ownBlock]at hb) (by simpa using u) (by simpa using A) (by simpa using hk)
   | sub _ b len cap _ _ _ p h1 h2 h3 hm hp=>
     have:=hp (.inr rfl);subst this;obtain⟨g1,g2⟩:=j;rcases g2 with⟨h,_⟩|⟨g,cap',cur,h,g4',g5,g6,g7,g8,g9⟩
     ·cases h
     ·cases h;have hl:(es.take up).length=up:=by simp;omega
      have hmul2:up*F<=es.length*F:=qF2 F h2;refine main id (.slice (some ⟨b,0*F,none⟩) (up -0) (cap -0)) (es.take up) (xs.take (up*F)) rfl ?_ (λd hd=>g3 d (qF1 hd)) ?_ (λq hq=>⟨_,hH,by simpa [Value.ownBlock,Res.blk]using hq⟩) (by rw[hl];exact u) (by rw[hl];exact A) hk
      ·rw[hl];refine⟨by rw[qF7,g1];omega, .inr ⟨b,cap,cur,by simp,qFY _,g5,by omega,g7,g8,?_⟩⟩;rw[<-g9,List.take_take];congr 1;omega
      ·intro k y c Q hc;rw[qFX]at Q;split at Q
       ·exact g4 k y c Q (nK hc)
       ·cases Q
  ·exact l.elim
 grind
def ZR{n:Nat}{es:List D}{i:Nat}(h:∀d∈es,d.cells.length=n)(hi:i<=es.length):(bp es).take (i*n)=bp (es.take i)/\(bp es).drop (i*n)=bp (es.drop i):=by
 have b:bp es=bp (es.take i) ++bp (es.drop i):=by rw[<-ub,qGa]
 grind [bh,qF7]
def ZQ{n:Nat}{es es2:List D}{lo:Nat}(h:∀d∈es,d.cells.length=n)(h2:∀d∈es2,d.cells.length=n)(b:lo+es2.length<=es.length):
 bp (es.take lo++es2++es.drop (lo+es2.length))=setAt (bp es) (lo*n) (bp es2):=by
 unfold setAt;rw[ub,ub,bh h2,<-qHb,(ZR h (by omega)).1,(ZR h b).2]
theorem Oq(s:StW E tp H w){id b el n cap lo:Nat}{es es2:List D}(F:H id=some (.row (.slice (some ⟨b,0,none⟩) es.length cap) el n es))(j:∀d∈es2,d.kn=true/\d.cells.length=n)
 {vs:List Value} (I:vs.length=es2.length*n) (t:ba (R tp (aR E.O tp H w) w) vs (bp es2)) (x:∀u∈vs,u.oneCell'=true) (l:lo+es2.length<=es.length):
 ∃w',(storeCells ⟨b,lo*n,none⟩ vs 0).run P w= .ok () w'/\
  (StW E tp (ai H id (some (.row (.slice (some ⟨b,0,none⟩) es.length cap) el n (es.take lo++es2++es.drop (lo+es2.length))))) w'/\
    ∀y e,R tp (aR E.O tp H w) w y e->R tp (aR E.O tp (ai H id (some (.row (.slice (some ⟨b,0,none⟩) es.length cap) el n (es.take lo++es2++es.drop (lo+es2.length))))) w') w' y e):=by
 obtain⟨xs,⟨S,g2⟩,C,U⟩:=s.sat.ok id _ F;rcases g2 with⟨h,_⟩|⟨g,W,cur,hg,g4',Y,Z,g7,g8,g9⟩
 grind
 ·cases hg;have hlen:(es.take lo++es2++es.drop (lo+es2.length)).length=es.length:=by grind
  have J:(lo+es2.length) *n<=es.length*n:=qF2 n l;have hm2:es.length*n<=cap*n:=qF2 n Z;rw[qHb]at J;have hfl:=bh (es:=es) (λd hd=>(C d hd).2);have A:=bh (es:=es2) (λd hd=>(j d hd).2);have p:=run_storeCells_at P b (lo*n) el vs 0 cur w Y (by omega) x;simp only[qGN]at p;have K:=setRow_heap w b cur (cur.toList.take (lo*n) ++vs++cur.toList.drop (lo*n+vs.length)).toArray el (0,0) Y;refine⟨_,p,s.own id _ (qH w b _) (λq hq=>by cases hq;exact⟨_,F,rfl⟩) (λr q h1 h2=>by cases h1;cases h2;exact .inr ⟨_,F,rfl⟩) (λm r h1=>?_)⟩;cases h1;have L:xs.length=(bp es).length:=by omega
  have M:(cur.toList.take (lo*n) ++vs++cur.toList.drop (lo*n+vs.length)).take (es.length*n)=xs.take (lo*n) ++vs++xs.drop (lo*n+vs.length):=by
   apply qGj;intro k;rw[lG (by omega),qFX,lG (by simp;omega)];by_cases h1:k<es.length*n
   ·rw[if_pos h1];by_cases h2:lo*n<=k/\k<lo*n+vs.length
    ·rw[if_pos h2,if_pos h2]
    ·rw[if_neg h2,if_neg h2,<-g9,qFX,if_pos h1]
   ·rw[if_neg h1,if_neg (by omega)];rw[qFV (by rw[S];omega)]
  have N:(xs.take (lo*n) ++vs++xs.drop (lo*n+vs.length)).length=es.length*n:=by
   simp only[qF5,qF7,qGO,S];omega
  have Q:(cur.toList.take (lo*n) ++vs++cur.toList.drop (lo*n+vs.length)).toArray.size=cap*n:=by
   simp only[qG9,qF5,qF7,qGO,qGm,g8];omega
  refine⟨xs.take (lo*n) ++vs++xs.drop (lo*n+vs.length),⟨by rw[hlen];exact N, .inr ⟨b,cap,_,by rw[hlen],qFY _,K,by rw[hlen];exact Z,g7,Q,by rw[hlen];exact M⟩⟩,λd hd=>?_,?_⟩
  ·rcases qFG.1 hd with hd|hd
   ·rcases qFG.1 hd with hd|hd
    ·exact C d (qF1 hd)
    ·exact j d hd
   ·exact C d (qGw hd)
  ·rw[ZQ (λd hd=>(C d hd).2) (λd hd=>(j d hd).2) l];exact vu L (λk y c h1 h2=>⟨(U k y c h1 h2).1,m _ _ (U k y c h1 h2).2⟩) (by rw[I,A]) (λk y c h1 h2=>⟨(t k y c h1 h2).1,m _ _ (t k y c h1 h2).2⟩) (by omega)
def qhj{agg:Bool}{z:List Value}{n:Nat}(b:z.length=n)(c:(agg||decide (n=1))=true)(d:z.all (λx=>match x with| .string s=>decide (s.size<=1000000)| .bool _| .int _ _| .pointer _| .slice _ _ _| .nilFunc| .map _=>true|_=>false)=true):
 (TT agg z).kn=true/\(TT agg z).cells=z.map yy:=by
 unfold TT;cases agg with
 |true=>exact⟨rfl,rfl⟩
 | false=>
   have:n=1:=by grind
   match z,b with
   | [y],_=>
     grind [yy,D.kn,D.cells]
   | [],h=>grind
   | _::_::_,h=>grind
theorem SH{z:List Value}{n m:Nat}{b:D}(hn:0<n)(K:z.length=n)(q:b.kn=true/\b.cells=z.map yy)(r:z.all (λx=>match x with| .string s=>decide (s.size<=1000000)| .bool _| .int _ _| .pointer _| .slice _ _ _| .nilFunc| .map _=>true|_=>false)=true)(t:z.all (·.oneCell')=true){I:Nat->Prop} :
 (∀d∈List.replicate m b,d.kn=true/\d.cells.length=n)/\(Builtin.zeroCells z.toArray m).toList.length=m*n/\ba (R tp I w) (Builtin.zeroCells z.toArray m).toList (bp (List.replicate m b))/\∀u∈ (Builtin.zeroCells z.toArray m).toList,u.oneCell'=true:=by
 have h:∀d∈List.replicate m b,d.kn=true/\d.cells.length=n:=λd p=>by
  grind
 have j:∀k,k<m*n->(Builtin.zeroCells z.toArray m).toList[k]? =z[k % n]?:=λk hk=>by
  have hm:k % z.length<z.length:=qG3 _ (by omega);grind [Builtin.zeroCells]
 refine⟨h,by grind [Builtin.zeroCells],λk y c F hc=>?_,λu L=>?_⟩
 ·obtain⟨d,p,l,J,he⟩:=BL hn (λd p=>(h d p).2) hc;have A:=qHW (qFF p);subst A;rw[q.2]at l;have C:k<m*n:=by
   grind [bh]
  rw[j k C]at F;exact mr r t (k % n) y c F l
 grind [Builtin.zeroCells]
theorem qjo{t el:TypeId}{n:Nat}{agg:Bool}{z:List Value}{c:Call}{x:Operand}{K:D->ab->Prop}(s:StW E tp H w)(ho:o.op= .call c)(hc:c.callee= .builtin .clear)(J:c.argTypes.toList=[t])(j:c.args.toList=[x])
 (ht:P.underlying t=some (.slice el)) (hs:cF P el=some n) (hz:cj P el=some z) (hn:0<n) (L:(agg||decide (n=1))=true)
 (C:R tp (aR E.O tp H w) w (a.eval x) (ev σ x)) (u:bK (.clear n agg z x) o.dst σ H K):dj P o a E tp H w K:=by
 obtain⟨cl,⟨args⟩,⟨ats⟩⟩:=c;simp only at J j hc;subst J;subst j;subst hc;simp only[bK]at u;obtain⟨i,zv,hi,W,hzc,hsz,Y,M⟩:=eO hz;have hni:i.size=n:=by
  grind [cF]
 have N:z.length=n:=by omega
 have Q:zv.cells=z.toArray:=by grind
 have Z:=qhj N L M;have mt:R tp (aR E.O tp H w) w (.tuple #[]) (.tup []):= .tup [] [] rfl (λk x c h=>by simp);generalize hq:a.eval x=q at C;have nothing:∀(ao:Option Addr) (c:Nat),q= .slice ao 0 c->K (.tup []) H->dj P o a E tp H w K:=λao c A hk=>by
  refine⟨.value (.tuple #[]), .tuple #[], .tup [],H,w,?_, .inl rfl,⟨s,λ_ _ h=>h⟩,mt,hk⟩;cases ao<;>simp[execOp,ho,resolve,invoke,builtin,hq,A,Builtin.clear_,run_underlying ht]
 have same:∀(id:Nat) (r:Res),H id=some r->ai H id (some r)=H:=λid r h=>by
  grind [ai,h.symm]
 have main:∀(id b d cap lo up:Nat) (es:List D),H id=some (.row (.slice (some ⟨b,0,none⟩) es.length cap) d n es)->lo<=up->up<=es.length->∀(p:Option Addr) (cc:Nat),q= .slice p (up -lo) cc->(lo<up->p=some ⟨b,lo*n,none⟩)->
  K (.tup []) (ai H id (some (.row (.slice (some ⟨b,0,none⟩) es.length cap) d n (es.take lo++List.replicate (up -lo) (TT agg z) ++es.drop up))))->dj P o a E tp H w K:=by
  intro id b d cap lo up es l hlu hue p cc A hp hk;by_cases h0:up=lo;simp_all
  ·have hlt:lo<up:=by omega
   have hpe:=hp hlt;subst hpe;obtain⟨r1,r2,r3,r4⟩:=SH (tp:=tp) (w:=w) (m:=up -lo) (I:=aR E.O tp H w) hn N Z M Y;obtain⟨w',s1,s2⟩:=Oq (P:=P) s (lo:=lo) l r1 (by rw[qHk];exact r2) r3 r4 (by rw[qHk];omega);rw[qHk,show lo+ (up -lo)=up by omega]at s2;refine⟨.value (.tuple #[]), .tuple #[], .tup [],_,w',?_, .inl rfl,s2,s2.2 _ _ mt,hk⟩;have hne:∃m,up -lo=m+1:=⟨up -lo -1,by omega⟩
   obtain⟨m,hm⟩:=hne;rw[hm]at A s1;simp[execOp,ho,resolve,invoke,builtin,hq,A,Builtin.clear_,run_underlying ht,zeroValue,typeInfo,hi,W,Q,s1]
 split at u
 ·rename_i id y S;rw[S]at C;cases C with
  | own _ _ h1=>
    split at u
    ·rename_i x' d n' es l;obtain⟨F,rfl,hk⟩:=u;subst F;obtain⟨xs,⟨g1,U⟩,g3,g4⟩:=s.sat.ok id _ l;rcases U with⟨h,h0⟩|⟨g,cap,cur,h,_⟩
     ·have:es=[]:=qFU h0;subst this;refine nothing none 0 h ?_;simp only[qHq,qH3]at hk;rw[same id _ l]at hk;exact hk
     ·rw[h]at l hk;exact main id g d cap 0 es.length es l (qFY _) (qFH _) (some ⟨g,0,none⟩) cap (by simpa using h) (λ_=>by simp) (by simpa using hk)
    ·exact u.elim
 ·rename_i id y n' lo up S;rw[S]at C;split at u
  ·rename_i x' d n'' es l;obtain⟨F,rfl,rfl,hk⟩:=u;subst F;obtain⟨xs,⟨g1,U⟩,g3,g4⟩:=s.sat.ok id _ l;cases C with
   | subnil=>
     rcases U with⟨_,h0⟩|⟨g,cap,cur,h,_⟩
     ·have:es=[]:=qFU h0;subst this;refine nothing none 0 rfl ?_;simp only[qHt,qH3,qHS,qHE,qGR]at hk;rw[same id _ l]at hk;exact hk
     ·cases h
   | sub _ b len cap _ _ _ p h1 h2 h3 hm hp=>
     rcases U with⟨h,_⟩|⟨g,cap',cur,h,_⟩
     ·cases h
     ·cases h;exact main id b d cap lo up es l h1 h2 p _ rfl (λh=>hp (.inl (by omega))) hk
  ·exact u.elim
 ·rename_i S;rw[S]at C;exact nothing none 0 C.inv_v u
 grind
theorem qnE{t el:TypeId}{n:Nat}{c:Call}{x y:Operand}{K:D->ab->Prop}(s:StW E tp H w)(ho:o.op= .call c)(hc:c.callee= .builtin .copy)(S:c.argTypes.toList=[t,t])(A:c.args.toList=[x,y])
 (ht:P.underlying t=some (.slice el)) (hs:cF P el=some n) (hn:0<n)
 (U:R tp (aR E.O tp H w) w (a.eval x) (ev σ x)) (Q:R tp (aR E.O tp H w) w (a.eval y) (ev σ y)) (F:bK (.copy n x y) o.dst σ H K):dj P o a E tp H w K:=by
 obtain⟨cl,⟨args⟩,⟨ats⟩⟩:=c;simp only at S A hc;subst S;subst A;subst hc;simp only[bK]at F;obtain⟨es2,F,W,ao,cc,news,Y,hao,hnl,M,Z,I⟩:=Yb s Q hn F;generalize hq:a.eval x=q at U;have same:∀(id:Nat) (r:Res),H id=some r->ai H id (some r)=H:=λid r h=>by
  grind [ai,h.symm]
 have nothing:∀(po:Option Addr) (dl c:Nat),q= .slice po dl c->min es2.length dl=0->K (.v (.int .i64 (0:Nat))) H->dj P o a E tp H w K:=λpo dl c J h0 hk=>by
  refine⟨.value (.int .i64 (0:Nat)), .int .i64 (0:Nat),_,H,w,?_, .inl rfl,⟨s,λ_ _ h=>h⟩, .int _ _,hk⟩;have h0':Nat.min es2.length dl=0:=h0;cases po<;>cases ao<;>simp[execOp,ho,resolve,invoke,builtin,hq,J,Y,Builtin.copy_,run_underlying ht,Builtin.lenOf,be hs,h0',Builtin.firstCells,loadCells,loadCellsFrom,storeCells,goInt]
 have main:∀(id b l cap lo up:Nat) (es:List D),H id=some (.row (.slice (some ⟨b,0,none⟩) es.length cap) l n es)->lo<=up->up<=es.length->∀(p:Option Addr) (c:Nat),q= .slice p (up -lo) c->(lo<up->p=some ⟨b,lo*n,none⟩)->
  K (.v (.int .i64 (min es2.length (up -lo):Nat))) (ai H id (some (.row (.slice (some ⟨b,0,none⟩) es.length cap) l n (es.take lo++es2.take (up -lo) ++es.drop (lo+min es2.length (up -lo))))))->dj P o a E tp H w K:=by
  intro id b l cap lo up es C hlu hue p c J hp hk;by_cases h0:min es2.length (up -lo)=0
  ·refine nothing p _ c J h0 ?_;have ht0:es2.take (up -lo)=[]:=by
    apply qFU;rw[qF7];omega
   rw[h0,ht0,qGR,qGN,qGa,same id _ C]at hk;exact hk
  ·have hlt:lo<up:=by omega
   have hpe:=hp hlt;subst hpe;have L:(es2.take (up -lo)).length=min es2.length (up -lo):=by rw[qF7];omega
   have hmle:min es2.length (up -lo) *n<=es2.length*n:=qF2 n (Nat.min_le_left _ _);have hvl:(news.take (min es2.length (up -lo) *n)).length=(es2.take (up -lo)).length*n:=by rw[L,qF7,hnl];omega
   obtain⟨w',s1,s2⟩:=Oq (P:=P) s (lo:=lo) (es2:=es2.take (up -lo)) (vs:=news.take (min es2.length (up -lo) *n)) C (λd hd=>W d (qF1 hd)) hvl (λk y c Q hc=>by
    rw[qFX]at Q;split at Q
    ·exact I k y c Q (nK hc)
    ·cases Q) (λu hu=>Z u (qF1 hu)) (by rw[L];omega)
   rw[L]at s2;refine⟨.value (.int .i64 (min es2.length (up -lo):Nat)), .int .i64 (min es2.length (up -lo):Nat),_,_,w',?_, .inl rfl,s2, .int _ _,hk⟩;have hao':∃ad,ao=some ad:=by
    cases ao with
    |none=>have:=hao rfl;omega
    |some ad=>exact⟨ad,rfl⟩
   obtain⟨ad,rfl⟩:=hao';have hld:=run_loadCells_list (P:=P) w ad (news.take (min es2.length (up -lo) *n)) (λj v hj=>by
    rw[qFX]at hj;split at hj
    ·exact M ad rfl j v hj
    ·cases hj)
   have hnn:(news.take (min es2.length (up -lo) *n)).length=Nat.min es2.length (up -lo) *n:=by rw[hvl,L]
   rw[hnn]at hld;have hmn:Nat.min es2.length (up -lo)=min es2.length (up -lo):=rfl;simp[execOp,ho,resolve,invoke,builtin,hq,J,Y,Builtin.copy_,run_underlying ht,Builtin.lenOf,be hs,Builtin.firstCells,hld,s1,goInt,hmn]
 split at F
 ·rename_i id y' e1;rw[e1]at U;cases U with
  | own _ _ h1=>
    split at F
    ·rename_i x' l n' es C;obtain⟨N,rfl,hk⟩:=F;subst N;obtain⟨xs,⟨g1,g2⟩,g3,g4⟩:=s.sat.ok id _ C;rcases g2 with⟨h,h0⟩|⟨g,cap,cur,h,_⟩
     ·have:es=[]:=qFU h0;subst this;refine nothing none 0 0 h (by simp) ?_;simp only[qHq,Nat.min_zero,qHl,qHE,qGR]at hk;rw[same id _ C]at hk;exact hk
     ·rw[h]at C hk;refine main id g l cap 0 es.length es C (qFY _) (qFH _) (some ⟨g,0,none⟩) cap (by simpa using h) (λ_=>by simp) ?_;have:es.drop es2.length=es.drop (min es2.length es.length):=by
       by_cases hle:es2.length<=es.length
       ·rw[Nat.min_eq_left hle]
       ·rw[Nat.min_eq_right (by omega),qGS (by omega),qGS (by omega)]
      rw[this]at hk;simpa using hk
    ·exact F.elim
 ·rename_i id y' n' lo up e1;rw[e1]at U;split at F
  ·rename_i x' l n'' es C;obtain⟨N,rfl,rfl,hk⟩:=F;subst N;obtain⟨xs,⟨g1,g2⟩,g3,g4⟩:=s.sat.ok id _ C;cases U with
   | subnil=>
     rcases g2 with⟨_,h0⟩|⟨g,cap,cur,h,_⟩
     ·have:es=[]:=qFU h0;subst this;refine nothing none 0 0 rfl (by simp) ?_;simp only[qHt,Nat.min_zero,qHl,qHS,qHE,qGR]at hk;rw[same id _ C]at hk;exact hk
     ·cases h
   | sub _ b len cap _ _ _ p h1 h2 h3 hm hp=>
     rcases g2 with⟨h,_⟩|⟨g,cap',cur,h,_⟩
     ·cases h
     ·cases h;exact main id b l cap lo up es C h1 h2 p _ rfl (λh=>hp (.inl (by omega))) hk
  ·exact F.elim
 grind
theorem qjp{t u el:TypeId}{n:Nat}{agg:Bool}{kn:IntKind}{z:List Value}{c:Call}{x y:Operand}{K:D->ab->Prop}(l:StW E tp H w)(ho:o.op= .call c)(hc:c.callee= .builtin .append)(p:c.argTypes.toList=[t,u])(d:c.args.toList=[x,y])
 (ht:P.underlying t=some (.slice el)) (hu:P.underlying u=some (.int kn)) (hs:cF P el=some n) (hz:cj P el=some z) (hn:0<n) (q:(agg||decide (n=1))=true)
 (hx:R tp (aR E.O tp H w) w (a.eval x) (ev σ x)) (hy:R tp (aR E.O tp H w) w (a.eval y) (ev σ y)) (J:bK (.appmk el n (P.bytesOf el) agg z x y) o.dst σ H K):dj P o a E tp H w K:=by
 obtain⟨cl,⟨args⟩,⟨ats⟩⟩:=c;simp only at p d hc;subst p;subst d;subst hc;simp only[bK]at J;split at J
 ·rename_i e1;rw[e1]at hx;have L:=hx.inv_v;split at J
  ·rename_i t' kc c hdst e2;obtain⟨h0,hb,h63,hk⟩:=J;have M:a.eval y= .int kc c:=by
    rw[EO e2]at hy;exact hy.inv_v
   obtain⟨i,zv,hi,N,hzc,hsz,Q,s⟩:=eO hz;have hni:i.size=n:=by
    grind [StW,cj,cF]
   have S:i.bytes=P.bytesOf el:=by grind [StW,cF,cj,Program.bytesOf]
   have j:z.length=n:=by omega
   have A:zv.cells=z.toArray:=by grind
   have U:=qhj j q s;obtain⟨m,rfl⟩:∃m:Nat,c=m:=⟨c.toNat,by omega⟩
   rw[qHU]at hk;by_cases W:m=0
   ·subst W;refine⟨.value (.slice none 0 0), .slice none 0 0, .own t' (.slice none 0 0),_,w,?_, .inl rfl,l.own t' (some (.row (.slice none 0 0) el n (List.replicate 0 (TT agg z)))) (gG w none) (λb hb=>by grind) (λr b h1 h2=>by grind [Res,StW,cF,cj,Res.blk,Value.ownBlock]) (λm r h1=>?_), .own _ _ rfl,hk _⟩
    ·simp[execOp,ho,resolve,invoke,builtin,L,M,Builtin.append_,run_underlying ht,run_underlying hu,sizeOf,typeInfo,hi,asInt,asIntOf,IntKind.wrap_i64]
    ·cases h1;exact⟨[],qHa _ _ _ _,by simp,λk y c h=>by grind⟩
   ·have hb':m*i.bytes<=140737488355328:=by
     rw[S];have:((m*P.bytesOf el:Nat):Int)<=140737488355328:=by push_cast;exact hb
     omega
    have C:=Lib.run_append_nil_zeros (P:=P) w t u o.type el i zv kc kn ht hu hi N m (by omega) (by omega) (by omega) (by omega);rw[A]at C;obtain⟨r1,r2,r3,r4⟩:=SH (tp:=tp) (w:=w) (m:=m) (I:=aR E.O tp H w) hn j U s Q;have Y:=grownCap_ge w m 0 el;have Z:grownCap w m 0 el<=maxLen:=grownCap_le_maxLen w m 0 el (by simp only[maxLen];omega);have F:(w.drew.alloc (.cells (Builtin.zeroCells z.toArray m++Builtin.zeroCells z.toArray (grownCap w m 0 el -m)) el)).ownsRow 0 el n (.slice (some ⟨w.heap.size,0,none⟩) m (grownCap w m 0 el)) m (Builtin.zeroCells z.toArray m).toList:=by
     refine⟨r2, .inr ⟨w.heap.size,_,_,rfl,qFY _,heap_alloc_new w.drew _,Y,Z,?_,?_⟩⟩
     ·simp only[qIa,size_zeroCells,qG9,j,<-qHb];congr 1;omega
     ·rw[Array.toList_append,<-r2];exact List.take_left
    refine⟨.value (.slice (some ⟨w.heap.size,0,none⟩) m (grownCap w m 0 el)), .slice (some ⟨w.heap.size,0,none⟩) m (grownCap w m 0 el), .own t' _,_,w.drew.alloc (.cells (Builtin.zeroCells z.toArray m++Builtin.zeroCells z.toArray (grownCap w m 0 el -m)) el),?_, .inl rfl,l.own t' (some (.row (.slice (some ⟨w.heap.size,0,none⟩) m (grownCap w m 0 el)) el n (List.replicate m (TT agg z)))) (row:=none) ⟨⟨rfl,rfl,rfl,by simp,λk hk _=>qHX w.drew _ k hk⟩,qGV _⟩ (λb hb=>by cases hb) (λr b h1 h2=>?_) (λmv r h1=>?_), .own _ _ rfl,hk _⟩;simp_all [execOp,resolve,invoke,builtin]
    ·cases h1;simp[Res.blk,Value.ownBlock]at h2;exact .inl (by omega)
    ·cases h1;refine⟨_,by rw[qHk];exact F,r1,λk y c h1 h2=>⟨(r3 k y c h1 h2).1,mv _ _ (r3 k y c h1 h2).2⟩⟩
  grind
 grind
def qf3{t:Nat}{ty:TypeId}{x:Operand}{s:ByteArray}{K:D->ab->Prop}(d:StW E tp H w)(ho:o.op= .range ty x)(h:P.underlying ty=some .string)(j:a.eval x= .string s)
 (k:∀b,K (.bptr t b 0) (ai H t (some (.iter b s 0)))):dj P o a E tp H w K:=by
 refine⟨_, .pointer (some ⟨w.heap.size,0,none⟩), .bptr t w.heap.size 0,_,w.alloc (.stringIter s 0),?_, .inl rfl,qz (r':= .iter w.heap.size s 0) d (λb hb=>by cases hb;rfl) (λm=>?_), .bptr _ _ _,k _⟩
 ·have c:=run_range_string (P:=P) w ty s h;simp only[execOp,ho,j,qF0,c,qFR,qF9];rfl
 ·exact heap_alloc_new _ _
def VT(w:World)(b:Nat)(s:ByteArray)(p:Nat):GrB w (w.iterAt b s p) (some b):=by
 refine⟨⟨rfl,rfl,rfl,by simp[Lib.iterAt_size],λk _ hk=>Lib.iterAt_other w b k s p (λe=>hk (by rw[e]))⟩,qFH _⟩
theorem qjn{x:Operand}{K:D->ab->Prop}(d:StW E tp H w)(ho:o.op= .next x true)(p:R tp (aR E.O tp H w) w (a.eval x) (ev σ x))(j:bK (.snext x) o.dst σ H K):dj P o a E tp H w K:=by
 simp only[bK]at j;generalize C:a.eval x=q at p;split at j
 ·rename_i id b off u;rw[u]at p;obtain⟨rfl,j⟩:=j;cases p;split at j
  ·rename_i b' s pos t;obtain⟨rfl,h1,h2⟩:=j;have hb:w.heap[b']? =some (.stringIter s pos):=d.sat.ok id _ t;by_cases hp:pos<s.size
   ·have l:=Lib.run_next_any_at (P:=P) w b' s pos o.type hb hp;have A:∀(I:Nat->Prop) (w':World),R tp I w' (.tuple #[.bool true, .int .i64 pos, .int .i32 (Utf8.decode s pos).1]) (.tup [.v (.bool true), .v (.int .i64 pos), .v (.int .i32 (Utf8.decode s pos).1)]):=λI w'=>
     .tup [.bool true, .int .i64 pos, .int .i32 (Utf8.decode s pos).1] _ rfl λk y c h1 h2=>by
      match k with
      | 0=>simp at h1 h2;subst h1;subst h2;exact .bool _
      | 1=>simp at h1 h2;subst h1;subst h2;exact .int _ _
      | 2=>simp at h1 h2;subst h1;subst h2;exact .int _ _
      |k+3=>grind
    refine⟨_,_,_,_,w.iterAt b' s (pos+ (Utf8.decode s pos).2),by grind [StW,D,ev,execOp,qF0,qFR,qF9], .inl rfl,d.own id (some (.iter b' s (pos+ (Utf8.decode s pos).2))) (VT w b' s _) (λb hb=>by cases hb;exact⟨_,t,rfl⟩) (λr b h1 h2=>by cases h1;cases h2;exact .inr ⟨_,t,rfl⟩) (λm r h1=>?_),A _ _,h1 hp⟩;cases h1;exact Lib.iterAt_heap w b' s pos _ hb
   ·have l:=Lib.run_next_end_at (P:=P) w b' s pos o.type hb hp;refine⟨_,_,_,_,w,by grind [execOp,qF0,qFR,qF9], .inl rfl,⟨d,λy e h=>h⟩, .tup [.bool false] [.v (.bool false)] rfl (λk y c h1 h2=>by
     match k with
     | 0=>simp at h1 h2;subst h1;subst h2;exact .bool _
     |k+1=>grind),h2 hp⟩
  grind
 grind
theorem ZE{t u el:TypeId}{x:Operand}{K:D->Prop}(b:StW E tp H w)(ho:o.op= .convert t u x)(h1:P.underlying t=some .string)(h2:P.underlying u=some (.slice el))(h3:P.underlying el=some (.int .u8))
 (L:R tp (aR E.O tp H w) w (a.eval x) (ev σ x)) {Hr:ab} (p:am (.sbytes x) σ Hr K):GoodN P o a E tp H w K:=by
 simp only[am]at p;split at p
 ·rename_i s Q;rw[Q]at L;obtain⟨S,U⟩:=L.inv_str;have j:=run_bytes_of_string (P:=P) w t u el s h1 h2 h3;generalize W:bytesRow s (grownCap w s.size 0 el)=C at j;generalize M:grownCap w s.size 0 el=cap at j W;have y:cap<=maxLen:=by grind [StW,grownCap_le_maxLen]
  have Y:s.size<=cap:=by grind [StW,grownCap_ge]
  have A:GrB w (w.drew.alloc (.cells C el (C.size,C.size+1))) none:=by
   have:=qHM w.drew (.cells C el (C.size,C.size+1)) none;exact⟨⟨this.os,this.tape,this.output,this.size,this.block⟩,qGV _⟩
  have hlen:(s.data.toList.map λc=>D.v (.int .u8 c.toNat)).length=s.size:=by
   simp
  have F:bp (s.data.toList.map λc=>D.v (.int .u8 c.toNat))=s.data.toList.map λc=>D.v (.int .u8 c.toNat):=by
   unfold bp;generalize s.data.toList=l
   induction l<;>simp_all [D.cells]
  refine⟨.slice (some ⟨w.heap.size,0,none⟩) s.size cap,_,_,by grind [StW,execOp,qF0,qFR,qF9],A,λN m=>?_,p⟩;have I:(w.drew.alloc (.cells C el (C.size,C.size+1))).heap[w.heap.size]? =some (.cells C el (C.size,C.size+1)):=heap_alloc_new _ _;have key:∀(k:Nat) (c:D),(bp (s.data.toList.map λc=>D.v (.int .u8 c.toNat)))[k]? =some c->∃q:UInt8,c= .v (.int .u8 q.toNat)/\C[k]? =some (.int .u8 q.toNat):=by
   intro k c hk;rw[F,qFP]at hk;obtain⟨q,hq,rfl⟩:=qFM.1 hk;refine⟨q,rfl,?_⟩;have Z:k<s.data.size:=by
    grind
   have hqq:s.data[k]? =some q:=by grind
   grind [StW,bytesRow]
  have J:R tp (aR E.O tp H (w.drew.alloc (.cells C el (C.size,C.size+1)))) (w.drew.alloc (.cells C el (C.size,C.size+1))) (.slice (some ⟨w.heap.size,0,none⟩) (s.data.toList.map λc=>D.v (.int .u8 c.toNat)).length cap) (.list 1 (s.data.toList.map λc=> .v (.int .u8 c.toNat))):=by
   refine .list w.heap.size 0 cap 1 _ (λk=>C.getD k undef) ⟨by simp,λh=>?_,λh=>?_,λ⟨i,r,h1,h2⟩=>?_⟩ (by omega) y (λh=>absurd rfl h) (λd hd=>?_) (λk c hk=>?_) (λk c hk=>?_) (λk c hk=>?_)
   ·have:=b.hO _ h;grind [b.step.size]
   ·have:=b.tpl.1 _ h;omega
   ·have:=(b.sat.ok i r h1).lt h2;omega
   ·obtain⟨c,_,rfl⟩:=qFL.1 hd;exact⟨rfl,rfl⟩
   all_goals
    obtain⟨q,e2,e3⟩:=key k c hk;have hg:C.getD k undef= .int .u8 q.toNat:=by simp_all
    try dsimp only
    rw[hg]
   ·rw[qGn,cell_of_row _ _ k C el _ I];omega
   ·rfl
   ·rw[e2];exact .int _ _
  grind
 grind
def SG(s:ByteArray):∀(bound i:Nat) (b:Array Value),(∀x∈b.toList,∃n,x= .int .i32 n)->∀x∈ (Conv.runesFrom s bound i b).toList,∃n,x= .int .i32 n
 | 0,_,b,h=>by grind [Conv.runesFrom]
 | bound+1,i,b,h=>by
   unfold Conv.runesFrom;split
   ·refine SG s bound _ _ λx c=>?_
    grind
   omega
theorem ZD{t u el:TypeId}{x:Operand}{K:D->Prop}(j:StW E tp H w)(ho:o.op= .convert t u x)(h1:P.underlying t=some .string)(h2:P.underlying u=some (.slice el))(h3:P.underlying el=some (.int .i32))
 (S:R tp (aR E.O tp H w) w (a.eval x) (ev σ x)) {Hr:ab} (A:am (.srunes x) σ Hr K):GoodN P o a E tp H w K:=by
 simp only[am]at A;split at A
 ·rename_i s Y;rw[Y]at S;obtain⟨Z,hsz⟩:=S.inv_str;have F:(Conv.runesFrom s s.size 0 #[]).size<=s.size:=by have:=size_runesFrom s s.size 0 #[];grind
  have I:=A.1;replace A:=A.2;have p:∀x∈ (Conv.runesFrom s s.size 0 #[]).toList,∃n,x= .int .i32 n:=SG s _ _ _ (λx h=>by grind);have b:=run_runes_of_string (P:=P) w t u el s h1 h2 h3 (qGg (qGg F I) (by decide));generalize hQ:Conv.runesFrom s s.size 0 #[]=q at b F p A;generalize U:grownCap w q.size 0 el=cap at b;have J:cap<=maxLen:=by grind [StW,grownCap_le_maxLen]
  have hcg:q.size<=cap:=by grind [StW,grownCap_ge]
  generalize hC:q++Array.replicate (cap -q.size) (.int .i32 0)=C at b;have L:GrB w (w.drew.alloc (.cells C el)) none:=by
   have:=qHM w.drew (.cells C el) none;exact⟨⟨this.os,this.tape,this.output,this.size,this.block⟩,qGV _⟩
  have hlen:(q.toList.map D.v).length=q.size:=by
   simp
  have M:bp (q.toList.map D.v)=q.toList.map D.v:=by
   unfold bp;generalize q.toList=l
   induction l<;>simp_all [D.cells]
  refine⟨.slice (some ⟨w.heap.size,0,none⟩) q.size cap,_,_,by grind [StW,execOp,qF0,qFR,qF9],L,λW m=>?_,A⟩;have N:(w.drew.alloc (.cells C el)).heap[w.heap.size]? =some (.cells C el (0,0)):=heap_alloc_new _ _;have key:∀(k:Nat) (c:D),(bp (q.toList.map D.v))[k]? =some c->∃n:Int,c= .v (.int .i32 n)/\C[k]? =some (.int .i32 n):=by
   intro k c hk;rw[M,qFP]at hk;obtain⟨y,hy,rfl⟩:=qFM.1 hk;obtain⟨n,rfl⟩:=p y (qFF hy);grind
  have Q:R tp (aR E.O tp H (w.drew.alloc (.cells C el))) (w.drew.alloc (.cells C el)) (.slice (some ⟨w.heap.size,0,none⟩) (q.toList.map D.v).length cap) (.list 1 (q.toList.map D.v)):=by
   refine .list w.heap.size 0 cap 1 _ (λk=>C.getD k undef) ⟨by simp,λh=>?_,λh=>?_,λ⟨i,r,h1,h2⟩=>?_⟩ (by omega) J (λh=>absurd rfl h) (λd hd=>?_) (λk c hk=>?_) (λk c hk=>?_) (λk c hk=>?_)
   ·have:=j.hO _ h;grind [j.step.size]
   ·have:=j.tpl.1 _ h;omega
   ·have:=(j.sat.ok i r h1).lt h2;omega
   ·obtain⟨c,_,rfl⟩:=qFL.1 hd;exact⟨rfl,rfl⟩
   all_goals
    obtain⟨q,e2,e3⟩:=key k c hk;have hg:C.getD k undef= .int .i32 q:=by simp_all
    try dsimp only
    rw[hg]
   ·rw[qGn,cell_of_row _ _ k C el _ N];omega
   ·rfl
   ·rw[e2];exact .int _ _
  grind
 grind
end
end Go.Gv
