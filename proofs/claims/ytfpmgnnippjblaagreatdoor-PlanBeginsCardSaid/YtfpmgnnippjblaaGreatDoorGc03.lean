/- S3 -/
import Derived.Deep.AppendSrc
import Derived.Test.YtfpmgnnippjblaaGreatDoorGc02
set_option linter.all false
namespace Go.Gv
section
variable {P:Program}{o:Oper}{a:Act}{tp I:Nat->Prop}{w:World}{σ:Sg}{K:D->Prop}
def Qc{t:TypeId}{k:qbE}(h:mB P t=some k):gS P t=some false:=by
 grind [mB,gS]
theorem qbf(a b:ByteArray):(a.toList==b.toList)=decide (a=b):=by
 rw[qHH,qHH];have:(a=b) ↔ (a.data.toList=b.data.toList):=by
  constructor;grind
  ·intro h;cases a;simp_all
 grind
def DU{d:D}{p:IntKind×Int}(h:mM d=some p):d= .v (.int p.1 p.2):=by
 unfold mM at h;grind
def qlM{d:D}{s:ByteArray}(h:qwB d=some s):d= .v (.string s):=by
 unfold qwB at h;grind
def qlN{d:D}{b:Bool}(h:qwC d=some b):d= .v (.bool b):=by
 unfold qwC at h;grind
def Mh{d:D}{cs:List D}(h:wy d=some cs):d= .agg cs:=by
 grind [D,wy]
theorem TE{k:qbE}{d e:D}{p:Bool}(h:qaE k d e=some p):
 (k= .int/\∃c a b,d= .v (.int c a)/\e= .v (.int c b)/\p=decide (a=b))\/(k= .str/\∃a b,d= .v (.string a)/\e= .v (.string b)/\p=decide (a=b))\/
 (k= .bool/\∃a b,d= .v (.bool a)/\e= .v (.bool b)/\p=decide (a=b))\/(k= .nil/\e= .v (.slice none 0 0)/\(d= .v (.slice none 0 0)/\p=true\/(∃n a l,d= .list n (a::l))/\p=false)):=by
 cases k with
 | int=>
   simp only[qaE,qF3]at h;obtain⟨⟨j,a⟩,h1,⟨q,b⟩,h2,h3⟩:=h;split at h3
   ·rename_i hk;simp only at hk h3;subst hk;cases h3;exact .inl ⟨rfl,j,a,b,DU h1,DU h2,rfl⟩
   grind
 | str=>
   simp only[qaE,qF3]at h;obtain⟨a,h1,b,h2,h3⟩:=h;cases h3;exact .inr (.inl ⟨rfl,a,b,qlM h1,qlM h2,rfl⟩)
 | nil=>
   simp only[qaE]at h;unfold qrj at h;grind
 | bool=>
   simp only[qaE,qF3]at h;obtain⟨a,h1,b,h2,h3⟩:=h;cases h3;exact .inr (.inr (.inl ⟨rfl,a,b,qlN h1,qlN h2,rfl⟩))
def qdl{t:TypeId}(h:mB P t=some .nil):∃u,P.underlying t=some (.slice u):=by
 grind [mB]
def R.inv_cons{x:Value}{n:Nat}{d:D}{l:List D}(h:R tp I w x (.list n (d::l))):∃b o c,x= .slice (some ⟨b,o,none⟩) (l.length+1) c:=by
 cases h;exact⟨_,_,_,rfl⟩
def qeu{t:TypeId}{k:qbE}(h:mB P t=some k){x y:Value}{d e:D}(j:R tp I w x d)(s:R tp I w y e){p:Bool}(hp:qaE k d e=some p)(n:Nat)(w':World):
 (Op.equalIn (n+1) t x y).run P w'= .ok p w':=by
 rcases TE hp with⟨rfl,C,q,r,rfl,rfl,rfl⟩|⟨rfl,q,r,rfl,rfl,rfl⟩|⟨rfl,q,r,rfl,rfl,rfl⟩|⟨rfl,rfl,h4⟩
 rotate_right
 ·obtain⟨u,A⟩:=qdl h;have h2:=s.inv_v;subst h2;rcases h4 with⟨rfl,rfl⟩|⟨⟨n,a,l,rfl⟩,rfl⟩
  ·have h1:=j.inv_v;subst h1;simp[Op.equalIn,run_underlying A]
  ·obtain⟨b,o,c,rfl⟩:=j.inv_cons;simp[Op.equalIn,run_underlying A]
 grind [mB,j.inv_v,s.inv_v,run_equalIn_int];grind [mB,j.inv_v,s.inv_v,run_equalIn_string,qbf];grind [mB,j.inv_v,s.inv_v,run_equalIn_bool']
def OV{t:TypeId}(h:gS P t=some false){xs:List Value}{off:Nat}{x:Value}(b:xs[off]? =some x)(w':World):(part t xs.toArray off).run P w'= .ok x w':=by
 simp[part,uE h,b]
theorem Vk(n:Nat)(w':World)(fs:List Field):∀(ks:List qbE) (as bs:List D) (xs ys:List Value) (s:Nat),
 fs.mapM (fun f => mB P f.type) = some ks → fs.map (·.offset) = List.range' s fs.length → fs.all (fun f => decide (f.name ≠ "_")) = true →
 xs.length=s+as.length->ys.length=s+bs.length->(∀(k:Nat) (x:Value) (c:D),xs[s+k]? =some x->as[k]? =some c->R tp I w x c)->(∀(k:Nat) (x:Value) (c:D),ys[s+k]? =some x->bs[k]? =some c->R tp I w x c)->
 ∀p,qdk ks as bs=some p->(Op.eqFields (n+1) xs.toArray ys.toArray fs).run P w'= .ok p w':=by
 induction fs with
 | nil=>
   simp_all [qdk,Op.eqFields]
 | cons f fs ih=>
   intro ks as bs xs ys s hk hof hnm hlx hly hx hy p hp;rw[qGM]at hk;cases hkf:mB P f.type with
   |none=>grind
   | some k0=>
     cases hkr:fs.mapM (λf=>mB P f.type)with
     |none=>grind
     | some kr=>
       simp[hkf,hkr]at hk;subst hk;simp only[qGG,qGT,qHU,qGF]at hof;obtain⟨h0,hof⟩:=hof;simp only[qHG,qF9,decide_eq_true_eq]at hnm;simp only[qdk,qF3]at hp;obtain⟨a0,ha0,b0,hb0,p0,e1,q0,e2,hpq⟩:=hp;cases as with
       |nil=>simp at ha0
       | cons a1 as=>
         cases bs with
         |nil=>simp at hb0
         | cons b1 bs=>
           simp at ha0 hb0;subst ha0;subst hb0;simp only[List.tail_cons]at e2;have lx:s<xs.length:=by rw[hlx];simp
           have ly:s<ys.length:=by rw[hly];simp
           have ex:xs[f.offset]? =some xs[s]:=by rw[h0];simp[lx]
           have ey:ys[f.offset]? =some ys[s]:=by rw[h0];simp[ly]
           have rx:R tp I w xs[s] a1:=hx 0 _ a1 (by simp[lx]) rfl;have ry:R tp I w ys[s] b1:=hy 0 _ b1 (by simp[ly]) rfl;have r1:=qeu hkf rx ry e1 n w';simp at hpq;simp only[Op.eqFields,hnm.1,ne_eq,not_false_eq_true,if_true,qGs,OV (Qc hkf) ex,OV (Qc hkf) ey,qGj,r1];cases p0
           ·simp at hpq ⊢;exact hpq
           ·simp only[qHs]at hpq;simp only[Bool.not_true,qGQ,if_false];rw[<-hpq];refine ih kr as bs xs ys (s+1) hkr hof hnm.2 (by rw[hlx];simp;omega) (by rw[hly];simp;omega) ?_ ?_ q0 e2
            ·intro k x c h1 h2;exact hx (k+1) x c (by rw[<-h1];congr 1;omega) h2
            ·intro k x c h1 h2;exact hy (k+1) x c (by rw[<-h1];congr 1;omega) h2
theorem qap{neg:Bool}{t u:TypeId}{x y:Operand}{c:COp}(ho:o.op= .binOp (if neg then .neq else .eql) t x y u)(hc:oa P neg t x y=some c)
 (C:R tp I w (a.eval x) (ev σ x)) (E:R tp I w (a.eval y) (ev σ y)) {H:ab} (J:ak c σ H K):Good P o a tp I w K:=by
 unfold oa at hc;split at hc
 ·rename_i k hk;cases hc;simp only[ak]at J;split at J
  ·rename_i p hp;simp only[qkY,qGQ,if_false]at hp;have L:∀n w',(Op.equalIn (n+1) t (a.eval x) (a.eval y)).run P w'= .ok p w':=λn w'=>qeu hk C E hp n w'
   refine⟨.bool (if neg then !p else p),_,?_, .bool _,J⟩;have L:=L 9999 w;generalize h:a.eval x=p1 at*;generalize j:a.eval y=p2 at*;rcases TE hp with⟨rfl,kk,q,r,F,M,rfl⟩|⟨rfl,q,r,F,M,rfl⟩|⟨rfl,q,r,F,M,rfl⟩|⟨rfl,M,h4⟩
   rotate_right
   ·rw[M]at E;have h2:=E.inv_v;subst h2;rcases h4 with⟨F,rfl⟩|⟨⟨n,a,l,F⟩,rfl⟩
    ·rw[F]at C;have h1:=C.inv_v;subst h1;cases neg<;>simp[execOp,ho,h,j,eqGuard,binOp,Op.equal,Op.maxDepth,L]
    ·rw[F]at C;obtain⟨b,o,c,rfl⟩:=C.inv_cons;cases neg<;>simp[execOp,ho,h,j,eqGuard,binOp,Op.equal,Op.maxDepth,L]
   all_goals
    rw[F]at C;rw[M]at E;have h1:=C.inv_v;have h2:=E.inv_v;subst h1;subst h2
   ·cases neg<;>simp[execOp,ho,h,j,eqGuard,binOp,Op.intCmp,BEq.beq,bne]
   ·cases neg<;>simp[execOp,ho,h,j,eqGuard,binOp,Op.stringOp,qbf]
   ·cases neg<;>simp[execOp,ho,h,j,eqGuard,binOp,Op.equal,Op.maxDepth,L]
  grind
 ·rename_i hk;cases s:A5 P t with
  |none=>grind
  | some ks=>
    simp[s]at hc;subst hc;unfold A5 at s;split at s
    ·rename_i fs hu;split at s
     ·rename_i A;simp only[qF9,qH7,decide_eq_true_eq]at A;obtain⟨⟨⟨c1,c2⟩,c3⟩,c4⟩:=A;simp only[ak]at J;split at J
      ·rename_i p hp;simp only[qkY,if_true,qF3]at hp;obtain⟨as,h1,U,h2,hp⟩:=hp;rw[Mh h1]at C;rw[Mh h2]at E;obtain⟨xs,ex,lx,W⟩:=C.inv_agg;obtain⟨O,Y,ly,ky⟩:=E.inv_agg;have Q:P.fieldsOf t=fs:=by grind [mB,Program.fieldsOf]
       have N:=Vk (P:=P) (tp:=tp) (I:=I) (w:=w) 9998 w fs.toList ks as U xs O 0 s c3 c4 (by omega) (by omega) (λk x c Z S=>(W k x c (by grind) S).2) (λk x c Z S=>(ky k x c (by grind) S).2) p hp;have d:=run_equalIn_struct (P:=P) w 9999 t xs.toArray O.toArray (by grind) c1;rw[Q,N]at d;have d:(Op.equalIn 10000 t (Value.agg xs.toArray) (Value.agg O.toArray)).run P w= .ok p w:=d;refine⟨.bool (if neg then !p else p),_,?_, .bool _,J⟩;cases neg<;>simp only[execOp,ho,ex,Y,if_true,qGQ,if_false,qGs,run_eqGuard_agg _ _ _ _ _ _ _ c2,qGj,run_eql_struct,run_neq_struct,d,qGy]
      grind
     grind
    grind
def aV{α b:Type}{f:α->b}{x:Option α}{y:b}(h:x.map f=some y):∃z,x=some z/\f z=y:=by
 simp_all
theorem TB{n:Nat} :∀{es:List D} (i:Nat),(∀d∈es,d.cells.length=n)->∀k,(bq (es.drop i))[k]? =(bq es)[i*n+k]?:=by
 intro es i
 induction i generalizing es with
 |zero=>simp
 | succ i b=>
   intro h k;cases es<;>grind [bq]
theorem mU{es:List D}{h:Nat}{k:Nat}{c:D}(hk:(bq (es.take h))[k]? =some c):(bq es)[k]? =some c:=by
 grind [sE,List.take_append_drop]
theorem PO{b off cap n:Nat}{es:List D}{f:Nat->Value}(hI:I b)(hc:es.length<=cap)(hm:cap<=maxLen)(hz:n≠1->PlainB w b)(hn:∀d∈es,d.kn=true/\d.cells.length=n)
 (hcell:∀(k:Nat) (c:D),(bq es)[k]? =some c->w.cell? ⟨b,off+k,none⟩=some (f k)) (p:∀(k:Nat) (c:D),(bq es)[k]? =some c->(f k).oneCell'=true)
 (s:∀(k:Nat) (c:D),(bq es)[k]? =some c->R tp I w (f k) c) {l h:Nat} (t:l<=h) (hh:h<=es.length):
 R tp I w (.slice (some ⟨b,off+l*n,none⟩) (h -l) (cap -l)) (.list n ((es.take h).drop l)):=by
 have hlen:((es.take h).drop l).length=h -l:=by grind
 have q:∀d∈ (es.take h).drop l,d∈es:=λd r=>qGq (qGO r)
 have j:∀(k:Nat) (c:D),(bq ((es.take h).drop l))[k]? =some c->(bq es)[l*n+k]? =some c:=by
  grind [PlainB,D.kn,TB,mU]
 rw[<-hlen];refine .list b (off+l*n) (cap -l) n _ (λk=>f (l*n+k)) hI (by omega) (by omega) hz (λd r=>hn d (q d r)) (λk c hk=>?_) (λk c hk=>p _ c (j k c hk)) (λk c hk=>s _ c (j k c hk));grind
theorem GU{lo hi:Option Operand}{len:Nat}{s:Nat->Nat->Prop}(j:∀y,lo=some y->R tp I w (a.eval y) (ev σ y))(k:∀y,hi=some y->R tp I w (a.eval y) (ev σ y))
 (d:lX (lo.map λo=>mM (ev σ o)) (hi.map λo=>mM (ev σ o)) len s):∃l h,l<=h/\h<=len/\s l h/\∀cap,len<=cap->(Instr.sliceBounds true len cap (lo.map a.eval) (hi.map a.eval) none).run P w= .ok (l,h,cap) w:=by
 have b:∀(y:Operand) (p:IntKind×Int),R tp I w (a.eval y) (ev σ y)->mM (ev σ y)=some p->a.eval y= .int p.1 p.2:=λy p c hp=>by
  rw[DU hp]at c;exact c.inv_v
 unfold lX at d;split at d
 ·rename_i q r;have hl:lo=none:=by simp_all
  have hh:hi=none:=by simp_all
  subst hl;subst hh;exact⟨0,len,qGr _,qGb _,d,λcap hc=>by rfl⟩
 ·rename_i t l q r;obtain⟨y,rfl,c⟩:=aV q;have hh:hi=none:=by simp_all
  subst hh;obtain⟨h0,h1,hk⟩:=d;have:=b y _ (j y rfl) c;refine⟨l.toNat,len,by omega,qGb _,hk,λcap hc=>?_⟩;simp_all [Instr.sliceBounds,Instr.sliceBound,asIntOf]
 ·rename_i t h q r;obtain⟨y,rfl,c⟩:=aV r;have hl:lo=none:=by simp_all
  subst hl;obtain⟨h0,h1,hk⟩:=d;have:=b y _ (k y rfl) c;refine⟨0,h.toNat,qGr _,by omega,hk,λcap hc=>?_⟩;have h2:h<=(cap:Int):=by omega
  simp_all [Instr.sliceBounds,Instr.sliceBound,asIntOf]
 ·rename_i u l x h q r;obtain⟨y,rfl,c⟩:=aV q;obtain⟨z,rfl,hz⟩:=aV r;obtain⟨h0,h1,h2,hk⟩:=d;have A:=b y _ (j y rfl) c;have C:=b z _ (k z rfl) hz;refine⟨l.toNat,h.toNat,by omega,by omega,hk,λcap hc=>?_⟩;have h3:h<=(cap:Int):=by omega
  have h4:(0:Int)<=h:=by omega
  have h5:l<=((h.toNat:Nat):Int):=by omega
  simp_all [Instr.sliceBounds,Instr.sliceBound,asIntOf]
 grind
theorem qc0{t el:TypeId}{n:Nat}{x:Operand}{lo hi:Option Operand}(ho:o.op= .slice t x lo hi none)(ht:P.underlying t=some (.slice el))(hs:cx P el=some n)
 (E:R tp I w (a.eval x) (ev σ x)) (J:∀y,lo=some y->R tp I w (a.eval y) (ev σ y)) (L:∀y,hi=some y->R tp I w (a.eval y) (ev σ y)) {H Hr:ab} (hle:∀i r,Hr i=some r->H i=some r) (hsat:∀i r,H i=some r->ResOk (R tp I w) w r) (k:ak (.slice n x lo hi) σ Hr K):Good P o a tp I w K:=by
 simp only[ak]at k;split at k
 ·rename_i C es Q;rw[Q]at E;obtain⟨rfl,k⟩:=k;generalize S:a.eval x=q at E;have A:∀(y:Operand) (p:IntKind×Int),R tp I w (a.eval y) (ev σ y)->mM (ev σ y)=some p->a.eval y= .int p.1 p.2:=λy p O hp=>by
   rw[DU hp]at O;exact O.inv_v
  have main:∀(l h:Nat),l<=h->h<=es.length->∃y,(∀(F:Option Addr) (len cap:Nat),q= .slice F len cap->
   y= .slice (if cap=l then F else F.map (·.add (l*C))) (h -l) (cap -l))/\R tp I w y (.list C ((es.take h).drop l)):=by
   intro l h h1 h2;cases E with
   | nolist F cap _=>
     have:h=0:=by grind
     subst this;have:l=0:=by omega
     subst this;refine⟨.slice F 0 cap,λbo' len Y he=>?_,by simpa using .nolist F cap C⟩;cases he;simp[Addr.add_zero']
   | list b off cap _ _ f hI hc hm hz hn hcell M hr=>
     by_cases j:cap=l
     ·subst j;have e0:h -cap=0:=by omega
      have Q:(es.take h).drop cap=[]:=by
       apply qGk;simp;omega
      refine⟨.slice (some ⟨b,off,none⟩) 0 (cap -cap),λbo' len Y he=>?_,by rw[Q];exact .nolist _ _ _⟩;cases he;simp[e0]
     ·refine⟨.slice (some ⟨b,off+l*C,none⟩) (h -l) (cap -l),λbo' len Y he=>?_,PO hI hc hm hz hn hcell M hr h1 h2⟩;cases he;simp[j,lC]
  have vsl:∃F len cap,q= .slice F len cap/\len=es.length/\len<=cap:=by
   cases E with
   |nolist F cap _=>exact⟨F,0,cap,rfl,rfl,qGr _⟩
   |list b off cap _ _ f hI hc hm hz hn hcell M h=>exact⟨_,_,_,rfl,rfl,hc⟩
  obtain⟨F,len,cap,hqe,hlen,hcap⟩:=vsl;subst hlen;have run:∀(l h:Nat),l<=h->h<=es.length->(Instr.sliceBounds true es.length cap (lo.map a.eval) (hi.map a.eval) none).run P w= .ok (l,h,cap) w->K (.list C ((es.take h).drop l))->Good P o a tp I w K:=by
   intro l h h1 h2 hb hk;obtain⟨y,O,hR⟩:=main l h h1 h2;have hy':=O F es.length cap hqe;refine⟨y,_,?_,hR,hk⟩;rw[hy'];simp only[execOp,ho,S,hqe,Instr.sliceAt,qGs,run_underlying ht,qGj,Instr.slice,qHt,hb,aZ hs,qGy]
  split at k
  ·rename_i U W;have hl:lo=none:=by simpa using U
   have hh:hi=none:=by simpa using W
   subst hl;subst hh;exact run 0 es.length (qGr _) (qGb _) (by simp[Instr.sliceBounds]) (by simpa using k)
  ·rename_i kk l U W;obtain⟨y,rfl,O⟩:=aV U;have hh:hi=none:=by simpa using W
   subst hh;obtain⟨h0,h1,hk⟩:=k;have:=A y _ (J y rfl) O;refine run l.toNat es.length (by omega) (qGb _) ?_ (by simpa using hk);simp[Instr.sliceBounds,this,Instr.sliceBound,asIntOf,h0,h1]
  ·rename_i kk h U W;obtain⟨y,rfl,O⟩:=aV W;have hl:lo=none:=by simpa using U
   subst hl;obtain⟨h0,h1,hk⟩:=k;have:=A y _ (L y rfl) O;have h2:h<=(cap:Int):=by omega
   refine run 0 h.toNat (qGr _) (by omega) ?_ (by simpa using hk);simp[Instr.sliceBounds,this,Instr.sliceBound,asIntOf,h0,h2]
  ·rename_i kl l kh h U W;obtain⟨y,rfl,O⟩:=aV U;obtain⟨z,rfl,hz⟩:=aV W;obtain⟨h0,h1,h2,hk⟩:=k;have e4:=A y _ (J y rfl) O;have e5:=A z _ (L z rfl) hz;have h3:h<=(cap:Int):=by omega
   have h4:(0:Int)<=h:=by omega
   have h5:l<=((h.toNat:Nat):Int):=by omega
   refine run l.toNat h.toNat (by omega) (by omega) ?_ hk;simp[Instr.sliceBounds,e4,e5,Instr.sliceBound,asIntOf,h0,h3,h4,h5];intro hbad;omega
  grind
 ·rename_i id y Q;rw[Q]at E;generalize S:a.eval x=q at E;cases E with
  | own _ _ M=>
    split at k
    ·rename_i x' el' C es hH;obtain⟨hxe,rfl,k⟩:=k;subst hxe;obtain⟨xs,⟨g1,g2⟩,g3⟩:=hsat _ _ (hle _ _ hH);obtain⟨l,h,h1,h2,hk,hb⟩:=GU (P:=P) (w:=w) J L k;rcases g2 with⟨h3,h4⟩|⟨g,cap,cur,h3,_,g5,g6,g7,_⟩
     ·have N:h=0:=by omega
      have u:l=0:=by omega
      subst N;subst u;have d:=hb 0 (by omega);rw[h3]at hk;rw[h4]at d;refine⟨.slice none 0 0,_,?_, .subnil id C,hk⟩;simp only[execOp,ho,S,h3,Instr.sliceAt,qGs,run_underlying ht,qGj,Instr.slice,qHt,d,aZ hs,qGy];simp
     ·have d:=hb cap g6;rw[h3]at hk;refine⟨.slice (if cap=l then some ⟨g,0,none⟩else some ⟨g,l*C,none⟩) (h -l) (cap -l),_,?_, .sub id g es.length cap C l h _ h1 h2 g6 g7 (λh5=>?_),hk⟩
      ·simp only[execOp,ho,S,h3,Instr.sliceAt,qGs,run_underlying ht,qGj,Instr.slice,qHt,d,aZ hs,qGy];by_cases j:cap=l<;>simp[j,lC]
      ·by_cases j:cap=l
       ·have:l=0:=by omega
        simp[j,this]
       ·simp[j]
    ·exact k.elim
 ·rename_i id y C c hi' Q;rw[Q]at E;obtain⟨rfl,k⟩:=k;obtain⟨l,h,h1,h2,hk,hb⟩:=GU (P:=P) (w:=w) J L k;generalize S:a.eval x=q at E;cases E with
  | subnil=>
    have N:h=0:=by omega
    have u:l=0:=by omega
    subst N;subst u;have d:=hb 0 (by omega);refine⟨.slice none 0 0,_,?_, .subnil id C,hk⟩;simp only[execOp,ho,S,Instr.sliceAt,qGs,run_underlying ht,qGj,Instr.slice,qHt,d,aZ hs,qGy];simp
  | sub _ b len cap _ _ _ p g1 g2 g3 hm hp=>
    have d:=hb (cap -c) (by omega);have U:h -l=(c+h) - (c+l):=by omega
    have W:cap -c -l=cap - (c+l):=by omega
    refine⟨.slice (if cap -c=l then p else p.map (·.add (l*C))) (h -l) (cap -c -l),_,?_,?_,hk⟩
    ·simp only[execOp,ho,S,Instr.sliceAt,qGs,run_underlying ht,qGj,Instr.slice,qHt,d,aZ hs,qGy]
    ·rw[U,W];refine .sub id b len cap C (c+l) (c+h) _ (by omega) (by omega) g3 hm (λh5=>?_);by_cases j:cap -c=l
     ·have u:l=0:=by omega
      have Z:c=0:=by omega
      have:=hp (.inr Z);rw[this];subst u;subst Z;simp[Addr.add_zero']
     ·have:=hp (by omega);rw[if_neg j,this];simp[lC,qHy]
 ·rename_i Q;rw[Q]at E;have S:=E.inv_v;obtain⟨l,h,h1,h2,hk,hb⟩:=GU (P:=P) (w:=w) J L k;have N:h=0:=by omega
  have u:l=0:=by omega
  subst N;subst u;have d:=hb 0 (by omega);refine⟨.slice none 0 0,_,?_, .v _ rfl (λs hs=>by cases hs),hk⟩;simp only[execOp,ho,S,Instr.sliceAt,qGs,run_underlying ht,qGj,Instr.slice,qHt,d,aZ hs,qGy];simp
 grind
theorem qam{t:TypeId}{x:Operand}{lo hi:Option Operand}(ho:o.op= .slice t x lo hi none)(M:P.underlying t=some .string)
 (u:R tp I w (a.eval x) (ev σ x)) (k:∀y,lo=some y->R tp I w (a.eval y) (ev σ y)) (q:∀y,hi=some y->R tp I w (a.eval y) (ev σ y)) {H:ab} (d:ak (.sslice x lo hi) σ H K):Good P o a tp I w K:=by
 simp only[ak]at d;split at d
 ·rename_i s C;rw[C]at u;obtain⟨N,E⟩:=u.inv_str;have b:∀(y:Operand) (p:IntKind×Int),R tp I w (a.eval y) (ev σ y)->mM (ev σ y)=some p->a.eval y= .int p.1 p.2:=λy p c hp=>by
   rw[DU hp]at c;exact c.inv_v
  have run:∀(l h:Nat),(Instr.sliceBounds false s.size s.size (lo.map a.eval) (hi.map a.eval) none).run P w= .ok (l,h,s.size) w->K (.v (.string (s.extract l h)))->Good P o a tp I w K:=by
   intro l h hb hk;refine⟨.string (s.extract l h),_,?_, .str _ ?_,hk⟩;simp_all [execOp,Instr.sliceAt,Instr.slice,run_underlying];simp;omega
  split at d
  ·rename_i j r;have hl:lo=none:=by simp_all
   have hh:hi=none:=by simp_all
   subst hl;subst hh;exact run 0 s.size (by rfl) d
  ·rename_i F l j r;obtain⟨y,rfl,c⟩:=aV j;have hh:hi=none:=by simp_all
   subst hh;obtain⟨h0,h1,hk⟩:=d;have:=b y _ (k y rfl) c;refine run l.toNat s.size ?_ hk;simp_all [Instr.sliceBounds,Instr.sliceBound,asIntOf]
  ·rename_i F h j r;obtain⟨y,rfl,c⟩:=aV r;have hl:lo=none:=by simpa using j
   subst hl;obtain⟨h0,h1,hk⟩:=d;have:=b y _ (q y rfl) c;refine run 0 h.toNat ?_ hk;simp_all [Instr.sliceBounds,Instr.sliceBound,asIntOf]
  ·rename_i O l Q h j r;obtain⟨y,rfl,c⟩:=aV j;obtain⟨z,rfl,hz⟩:=aV r;obtain⟨h0,h1,h2,hk⟩:=d;have J:=b y _ (k y rfl) c;have L:=b z _ (q z rfl) hz;have h4:(0:Int)<=h:=by omega
   have h5:l<=((h.toNat:Nat):Int):=by omega
   refine run l.toNat h.toNat ?_ hk;simp[Instr.sliceBounds,J,L,Instr.sliceBound,asIntOf,h0,h2,h4,h5];intro A;omega
  grind
 grind
end
def pz(off:Nat):∀(l:List (Value×Nat)) (cells:Array Value),(l.foldl (λcs p=>cs.setIfInBounds (off+p.2) p.1) cells).size=cells.size
 | [],_=>rfl
 |p::l,cells=>by rw[qHf,pz off l];simp
def wS(off:Nat):∀(l:List Value) (s:Nat) (cells:Array Value) (k:Nat),off+s+l.length<=cells.size->
 ((l.zipIdx s).foldl (λcs p=>cs.setIfInBounds (off+p.2) p.1) cells)[k]? =if off+s<=k/\k<off+s+l.length then l[k - (off+s)]? else cells[k]?
 | [],s,cells,k,h=>by
   simp;omega
 | v::l,s,cells,k,h=>by
   simp only[qGT]at h;rw[List.zipIdx_cons,qHf,wS off l (s+1) _ k (by grind)];grind
def K5{place:Nat->Option (Nat×Nat)}{cells:Array Value}{i off sz:Nat}{v:Value}{rest:List (Nat×Value)}(hp:place i=some (off,sz))(c:v.cells.size=sz)(b:off+sz<=cells.size):
 Instr.fill place cells ((i,v)::rest)=Instr.fill place ((v.cells.toList.zipIdx 0).foldl (λcs p=>cs.setIfInBounds (off+p.2) p.1) cells) rest:=by
 simp only[Instr.fill,hp];rw[if_neg (by grind)];grind [Array.toList_zipIdx]
section
variable {P:Program}{o:Oper}{a:Act}{tp I:Nat->Prop}{w:World}{σ:Sg}{K:D->Prop}
def DX{Q:Value->D->Prop}{cells b:Array Value}{ds:List D}{new:List D}{nv:List Value}{off:Nat}(hl:cells.size=ds.length)(h:aS Q cells.toList ds)(hn:nv.length=new.length)(p:aS Q nv new)
 (l:off+new.length<=ds.length) (hc:∀k:Nat,b[k]? =if off<=k/\k<off+nv.length then nv[k -off]? else cells[k]?):aS Q b.toList (setAt ds off new):=by
 intro k y c d j;simp only[qGx]at d;rw[hc k]at d;simp only[Gv.setAt]at j;split at d;grind [aS]
 ·rename_i hk;refine h k y c (by grind) ?_;grind
def Kn{l new:List D}{off:Nat}(h:off+new.length<=l.length)(k:Nat):(setAt l off new)[k]? =if off<=k/\k<off+new.length then new[k -off]? else l[k]?:=by
 have b:(l.take off).length=off:=by grind
 have c:(l.take off++new).length=off+new.length:=by grind
 simp only[setAt];grind
theorem oq{ds new:List D}{off:Nat}(h:off+new.length<=ds.length):(setAt ds off new).length=ds.length:=by
 grind [setAt]
theorem qay{fs:Array Field}{places:List (Nat×Nat)}(h:∀(i:Nat) (f:Field) (sz:Nat),fs[i]? =some f->cx P f.type=some sz->places[i]? =some (f.offset,sz))(N:Nat):
 ∀ (parts:List (Nat×Operand)) (s:List (Nat×Nat×Operand)),(∀p∈parts,R tp I w (a.eval p.2) (ev σ p.2))->
  parts.mapM (λp=>do
   let f <-fs[p.1]?
   let sz <-cx P f.type
   if f.offset+sz<=N then some (f.offset,sz,p.2)else none)=some s->
  ∀ (cs:Array Value) (ds:List D) (j:List D->Prop),cs.size=N->ds.length=N->aS (R tp I w) cs.toList ds->kE σ s ds j->
   ∃cs' b,Instr.fill (λi=>places[i]?) cs (parts.map λp=>(p.1,a.eval p.2))=some cs'/\cs'.size=N/\b.length=N/\aS (R tp I w) cs'.toList b/\j b
 | [],s,_,hm,cs,ds,j,h1,h2,h3,l=>by
   simp at hm;subst hm;exact⟨cs,ds,rfl,h1,h2,h3,l⟩
 | p::parts,s,y,hm,cs,ds,j,h1,h2,h3,l=>by
   rw[qGM]at hm;simp only[qF5,qF3,Option.pure_def]at hm;obtain⟨q,⟨f,E,sz,t,u⟩,rest,c,x⟩:=hm;split at u
   ·rename_i A;cases u;cases x;obtain⟨F,M,l⟩:=l;have J:=y p (by simp);obtain⟨c1,c2⟩:=J.cells F;have d:(a.eval p.2).cells.size=sz:=by grind
    have L:=K5 (place:=λi=>places[i]?) (cells:=cs) (i:=p.1) (v:=a.eval p.2) (rest:=parts.map λp=>(p.1,a.eval p.2)) (h p.1 f sz E t) d (by omega);have hlen:(a.eval p.2).cells.toList.length=sz:=by omega
    have C:=wS f.offset (a.eval p.2).cells.toList 0 cs;have r:aS (R tp I w) (((a.eval p.2).cells.toList.zipIdx 0).foldl (λcs p=>cs.setIfInBounds (f.offset+p.2) p.1) cs).toList (setAt ds f.offset (ev σ p.2).cells):=
     DX (cells:=cs) (nv:=(a.eval p.2).cells.toList) (by omega) h3 (by omega) c2 (by omega) (λk=>by
      grind)
    obtain⟨cs',b,O,Q,S,U,W⟩:=qay h N parts rest (λq u=>y q (by grind)) c _ _ j (by simp_all [pz]) (by grind [oq]) r l;grind
   grind
theorem TC(sz:Nat)(N:Nat):
 ∀ (parts:List (Nat×Operand)) (r:List (Nat×Nat×Operand)),(∀p∈parts,R tp I w (a.eval p.2) (ev σ p.2))->
  parts.mapM (λp=>if p.1*sz+sz<=N then some (p.1*sz,sz,p.2)else none)=some r->
  ∀ (cs:Array Value) (ds:List D) (h:List D->Prop),cs.size=N->ds.length=N->aS (R tp I w) cs.toList ds->kE σ r ds h->
   ∃cs' b,Instr.fill (λi=>some (i*sz,sz)) cs (parts.map λp=>(p.1,a.eval p.2))=some cs'/\cs'.size=N/\b.length=N/\aS (R tp I w) cs'.toList b/\h b
 | [],r,_,hm,cs,ds,h,h1,h2,h3,j=>by
   simp at hm;subst hm;exact⟨cs,ds,rfl,h1,h2,h3,j⟩
 | p::parts,r,u,hm,cs,ds,h,h1,h2,h3,j=>by
   rw[qGM]at hm;simp only[qF5,qF3,Option.pure_def]at hm;obtain⟨q,s,rest,c,t⟩:=hm;split at s
   ·rename_i x;cases s;cases t;obtain⟨A,F,j⟩:=j;have C:=u p (by simp);obtain⟨c1,c2⟩:=C.cells A;have d:(a.eval p.2).cells.size=sz:=by grind
    have E:=K5 (place:=λi=>some (i*sz,sz)) (cells:=cs) (i:=p.1) (v:=a.eval p.2) (rest:=parts.map λp=>(p.1,a.eval p.2)) rfl d (by omega);have hlen:(a.eval p.2).cells.toList.length=sz:=by omega
    have y:=wS (p.1*sz) (a.eval p.2).cells.toList 0 cs;have l:aS (R tp I w) (((a.eval p.2).cells.toList.zipIdx 0).foldl (λcs q=>cs.setIfInBounds ((p.1*sz) +q.2) q.1) cs).toList (setAt ds (p.1*sz) (ev σ p.2).cells):=
     DX (cells:=cs) (nv:=(a.eval p.2).cells.toList) (by omega) h3 (by omega) c2 (by omega) (λk=>by
      grind)
    obtain⟨cs',b,J,L,M,O,Q⟩:=TC sz N parts rest (λq s=>u q (by grind)) c _ _ h (by simp_all [pz]) (by grind [oq]) l j;grind
   grind
theorem lD{z:List Value}(h:z.all (λx=>match x with| .string s=>decide (s.size<=1000000)| .bool _| .int _ _| .pointer _| .slice _ _ _| .nilFunc| .map _=>true|_=>false)=true)(h1:z.all (·.oneCell')=true):aS (R tp I w) z (z.map rk):=by
 intro k y c b hc;rw[qGn,b]at hc;cases hc;have hm:=qF7 b;refine⟨qGa.1 h1 y hm,qpW y (λs hs=>?_)⟩;have:=qGa.1 h y hm;subst hs;have:s.size<=1000000:=by grind
 grind [maxLen]
def eB{t:TypeId}{z:List Value}(h:cv P t=some z):∃i b,P.info? t=some i/\i.zero=some b/\b.cells.toList=z/\i.size=z.length/\z.all (·.oneCell')=true/\
 z.all (λx=>match x with| .string s=>decide (s.size<=1000000)| .bool _| .int _ _| .pointer _| .slice _ _ _| .nilFunc| .map _=>true|_=>false)=true:=by
 unfold cv at h;simp only[qF5,qF3]at h;grind
theorem qc5{t:TypeId}{parts:Array (Nat×Operand)}{fs:Array Field}{z:List Value}{s:List (Nat×Nat×Operand)}(ho:o.op= .build t parts)(hz:cv P t=some z)(ht:P.underlying t=some (.struct fs))
 (u:parts.toList.mapM (λp=>do
   let f <-fs[p.1]?
   let sz <-cx P f.type
   if f.offset+sz<=z.length then some (f.offset,sz,p.2)else none)=some s)
 (d:fs.toList.all (λf=>(cx P f.type).isSome)=true) (J:∀p∈parts.toList,R tp I w (a.eval p.2) (ev σ p.2)) {H:ab} (A:ak (.build z s) σ H K):Good P o a tp I w K:=by
 simp only[ak]at A;obtain⟨i,L,hi,M,N,O,Q,S⟩:=eB hz;have places:∀(l:List Field),l.all (λf=>(cx P f.type).isSome)=true->∃pl,l.mapM (λf=>(P.info? f.type).map λi=>(f.offset,i.size))=some pl/\∀(i:Nat) (f:Field) (sz:Nat),l[i]? =some f->cx P f.type=some sz->pl[i]? =some (f.offset,sz):=by
  intro l
  induction l with
  |nil=>simp
  | cons f l U=>
    intro h;simp only[qHG,qF9]at h;obtain⟨pl,e1,e2⟩:=U h.2;obtain⟨sz,hs⟩:=qGK.1 h.1;have q:=hs;unfold cx at q;obtain⟨ii,W,C⟩:=aV q;refine⟨(f.offset,sz)::pl,by grind,λj g sg hj hg=>?_⟩;grind
 obtain⟨pl,E,r⟩:=places fs.toList d;obtain⟨cs',b,r1,r2,r3,F,Y⟩:=qay (P:=P) (fs:=fs) (places:=pl) (λi f sz h1 h2=>r i f sz (by grind) h2) z.length parts.toList s J u L.cells (z.map rk) _ (by grind) (by simp) (by grind [aS,cv,lD]) A;have hb:P.built t (parts.map λ(i,x)=>(i,a.eval x)).toList=some cs':=by
  simp_all [Program.built]
 refine⟨.agg cs', .agg b,by simp_all [execOp,run_build],?_,Y⟩;have:=R.agg (tp:=tp) (I:=I) (w:=w) cs'.toList b (by grind) (λx Z=>?_) (λk x c h1 h2=>(F k x c h1 h2).2);omega
 ·obtain⟨k,hk⟩:=qGp.1 Z;have y:k<b.length:=by
   grind
  exact(F k x _ hk (qF6 y)).1
def GoodN(P:Program)(o:Oper)(a:Act)(E:BU)(tp:Nat->Prop)(H:ab)(w:World)(K:D->Prop):Prop:=
 ∃x d w',(execOp a.eval o).run P w= .ok (.value x) w'/\GrB w w' none/\(StW E tp H w'->(∀y e,R tp (be E.O tp H w) w y e->R tp (be E.O tp H w') w' y e)->R tp (be E.O tp H w') w' x d)/\K d
theorem qar{t el:TypeId}{parts:Array (Nat×Operand)}{len sz:Nat}{z:List Value}{h:List (Nat×Nat×Operand)}(ho:o.op= .build t parts)(hz:cv P t=some z)(Q:P.underlying t=some (.array len el))(hs:cx P el=some sz)
 (j:parts.toList.mapM (λp=>if p.1*sz+sz<=z.length then some (p.1*sz,sz,p.2)else none)=some h)
 (u:∀p∈parts.toList,R tp I w (a.eval p.2) (ev σ p.2)) {H:ab} (r:ak (.build z h) σ H K):Good P o a tp I w K:=by
 simp only[ak]at r;obtain⟨i,y,hi,A,C,E,F,J⟩:=eB hz;have d:=hs;unfold cx at d;obtain⟨L,M,l⟩:=aV d;subst l;obtain⟨cs',b,S,U,W,s,N⟩:=TC L.size z.length parts.toList h u j y.cells (z.map rk) _ (by grind) (by simp) (by grind [aS,cv,lD]) r;have hb:P.built t (parts.map λ(i,x)=>(i,a.eval x)).toList=some cs':=by
  simp_all [Program.built]
 refine⟨.agg cs', .agg b,by simp_all [execOp,run_build],?_,N⟩;have:=R.agg (tp:=tp) (I:=I) (w:=w) cs'.toList b (by grind) (λx O=>?_) (λk x c h1 h2=>(s k x c h1 h2).2);omega
 ·obtain⟨k,hk⟩:=qGp.1 O;have q:k<b.length:=by
   grind
  exact(s k x _ hk (qF6 q)).1
def Good.toN{E:BU}{H:ab}(h:Good P o a tp (be E.O tp H w) w K):GoodN P o a E tp H w K:=by
 grind [GoodN,Good,gm]
def qeS{E:BU}{H:ab}{ob:Obj}(b:StW E tp H w):be E.O tp H (w.alloc ob) w.heap.size:=by
 have c:E.w0.heap.size<=w.heap.size:=b.step.size;refine⟨by simp,λh=>by have:=b.hO _ h;omega,λh=>by grind [StW],λ⟨i,r,h1,h2⟩=>by have:=(b.sat.ok i r h1).lt h2;omega⟩
def qg3{el:TypeId}{x:Operand}{E:BU}{H:ab}(c:StW E tp H w)(ho:o.op= .box el x)(j:R tp (be E.O tp H w) w (a.eval x) (ev σ x))(b:ak (.box el true x) σ H K):GoodN P o a E tp H w K:=by
 simp only[ak]at b;obtain⟨hk,b⟩:=b;refine⟨.pointer (some ⟨w.heap.size,0,none⟩),_,w.alloc (.cells (a.eval x).cells el),by simp[execOp,ho,Instr.box,newVar,newRow],GrB.alloc _ _ _,λd m=>?_,b⟩;obtain⟨c1,c2⟩:=(m _ _ j).cells hk;have h:(w.alloc (.cells (a.eval x).cells el)).heap[w.heap.size]? =some (.cells (a.eval x).cells el (0,0)):=heap_alloc_new _ _;obtain⟨f,k,l,p⟩:=zJ h (by omega) c2;have:=R.cptr (tp:=tp) w.heap.size 0 (ev σ x).cells 0 f (qeS c) (λ_=>⟨_,_,h⟩) k l p;omega
theorem P4{n:Nat} :∀(vs:List Value) (s:Nat) (cells:Array Value),(∀v∈vs,v.cells.size=n)->(s+vs.length) *n<=cells.size->
 ∃b,Instr.fill (λi=>some (i*n,n)) cells ((List.range' s vs.length).zip vs)=some b/\b.size=cells.size/\(∀k,k<s*n->b[k]? =cells[k]?)/\
  ∀i j v,vs[i]? =some v->j<n->b[(s+i) *n+j]? =v.cells[j]?
 | [],s,cells,_,_=>⟨cells,rfl,rfl,λ_ _=>rfl,λi j v h=>by grind⟩
 | v::vs,s,cells,hn,d=>by
   have q:=hn v (by simp);simp only[qGT]at d;have c:s*n+n<=cells.size:=by
    grind
   have r:=K5 (place:=λi=>some (i*n,n)) (cells:=cells) (i:=s) (v:=v) (rest:=(List.range' (s+1) vs.length).zip vs) rfl q c;have l:=wS (s*n) v.cells.toList 0 cells;obtain⟨c',y,t,A,C⟩:=P4 vs (s+1) ((v.cells.toList.zipIdx 0).foldl (λcs p=>cs.setIfInBounds (s*n+p.2) p.1) cells) (λu x=>hn u (by grind)) (by
    rw[pz];grind)
   refine⟨c',?_,by rw[t,pz],λk hk=>?_,λi j u x E=>?_⟩;grind [List.range'_succ,List.zip_cons_cons];grind
   ·cases i<;>grind
def Az{n:Nat} :∀{l:List D},km n l->∀d∈l,d.kn=true/\d.cells.length=n
 | [],_,d,hd=>by grind
 | e::l,h,d,hd=>by
   rcases qGm.1 hd with rfl|hd;grind [km]
   ·exact Az h.2.2 d hd
def AP{n:Nat}(hn:0<n){es:List D}(h:∀d∈es,d.cells.length=n){k:Nat}{c:D}(hk:(bq es)[k]? =some c):∃d,es[k/n]? =some d/\d.cells[k % n]? =some c/\k % n<n/\k=k/n*n+k % n:=by
 have b:k % n<n:=qHu _ hn;have he:k=k/n*n+k % n:=by grind [Nat.div_add_mod]
 rw[he,ij h b]at hk;grind
theorem qas{t el:TypeId}{n len:Nat}{parts:Array (Nat×Operand)}{W:List Operand}{E:BU}{H:ab}{z0:List Value}(Y:StW E tp H w)(ho:o.op= .buildSlice t len parts)(ht:P.underlying t=some (.slice el))(hs:cx P el=some n)
 (hz:cv P el=some z0) (u:yD parts len=some W) (hlim:len*n<=2^24) (hn:0<n) (Z:len≠0) (hr:∀x∈W,R tp (be E.O tp H w) w (a.eval x) (ev σ x)) (Q:ak (.bslice el n W) σ H K):GoodN P o a E tp H w K:=by
 simp only[ak]at Q;obtain⟨hpv,Q⟩:=Q;unfold yD at u;split at u
 ·rename_i C;cases u;have hlen:parts.toList.length=len:=by
   have:=congrArg List.length C;grind
  obtain⟨i,S,hi,hzv,hzc,hsz,hz1,hz2⟩:=eB hz;have l:=Az hpv;have hvs:∀v∈ (parts.toList.map (·.2)).map a.eval,v.cells.size=n:=by
   intro v hv';obtain⟨x,F,rfl⟩:=qGd.1 hv';have h1:=l (ev σ x) (qGd.2 ⟨x,F,rfl⟩);have:=((hr x F).cells h1.1).1;grind
  have hz0:z0.length=n:=by
   grind [StW,cv,cx]
  have J:¬(len*n=0):=by
   grind [StW,cx,cv,Nat.mul_eq_zero]
  obtain⟨b,r1,r2,r3,r4⟩:=P4 (n:=n) ((parts.toList.map (·.2)).map a.eval) 0 ((Array.range (len*n)).map (S.cells[· % S.cells.size]!)) hvs (by grind);have j:(List.range' 0 ((parts.toList.map (·.2)).map a.eval).length).zip ((parts.toList.map (·.2)).map a.eval)=parts.toList.map λp=>(p.1,a.eval p.2):=by
   have e1:List.range' 0 ((parts.toList.map (·.2)).map a.eval).length=parts.toList.map (·.1):=by
    grind [StW,cx,cv,List.range_eq_range']
   grind
  rw[j]at r1;have L:(Instr.buildSlice t len (parts.map λ(i,x)=>(i,a.eval x))).run P w= .ok (.slice (some ⟨w.heap.size,0,none⟩) len len) (w.alloc (.cells b el)):=by
   have hl:¬(16777216<len*n):=by omega
   have r1':Instr.fill (λi=>some (i*n,n)) ((Array.range (len*n)).map (S.cells[· % S.cells.size]!)) (parts.toList.map λp=>(p.1,a.eval p.2))=some b:=r1;simp[Instr.buildSlice,run_underlying ht,aZ hs,hl,J,zeroValue,typeInfo,hi,hzv,r1',newRow]
  refine⟨.slice (some ⟨w.heap.size,0,none⟩) len len,_,w.alloc (.cells b el),by simp[execOp,ho,L],GrB.alloc _ _ _,λhst' m=>?_,Q⟩;have A:∀d∈ (parts.toList.map (·.2)).map (ev σ),d.kn=true/\d.cells.length=n:=l;have h:((parts.toList.map (·.2)).map (ev σ)).length=len:=by simp[hlen]
  have hcell:∀(k:Nat) (c:D),(bq ((parts.toList.map (·.2)).map (ev σ)))[k]? =some c->∃y,b[k]? =some y/\y.oneCell'=true/\R tp (be E.O tp H (w.alloc (.cells b el))) (w.alloc (.cells b el)) y c:=by
   intro k c hk;obtain⟨d,U,hdc,q,he⟩:=AP hn (λd U=>(A d U).2) hk;rw[qGn]at U;obtain⟨x,F,rfl⟩:=aV U;have M:x∈parts.toList.map (·.2):=qF7 F;have hRx:=m _ _ (hr x M);have N:=A (ev σ x) (qGd.2 ⟨x,M,rfl⟩);obtain⟨c1,c2⟩:=hRx.cells N.1;have hvx:((parts.toList.map (·.2)).map a.eval)[k/n]? =some (a.eval x):=by rw[qGn,F];rfl
   have:=r4 (k/n) (k % n) _ hvx q;rw[qGS,<-he]at this;have hlt:k % n<(a.eval x).cells.toList.length:=by rw[c1,N.2];exact q
   have r:k % n<(a.eval x).cells.size:=by simpa using hlt
   refine⟨(a.eval x).cells[k % n],by rw[this];simp[r],?_⟩;exact c2 (k % n) _ c (by simp[r]) hdc
  have hgn:(w.alloc (.cells b el)).heap[w.heap.size]? =some (.cells b el (0,0)):=heap_alloc_new _ _
  suffices s:R tp (be E.O tp H (w.alloc (.cells b el))) (w.alloc (.cells b el)) (.slice (some ⟨w.heap.size,0,none⟩) ((parts.toList.map (·.2)).map (ev σ)).length ((parts.toList.map (·.2)).map (ev σ)).length) (.list n ((parts.toList.map (·.2)).map (ev σ)))by
   rw[h]at s;exact s
  refine .list w.heap.size 0 _ n _ (λk=>b.getD k undef) (qeS Y) (qGb _) (by rw[h];have:len<=len*n:=qHO _ hn;simp only[maxLen];omega) (λ_=>⟨_,_,hgn⟩) A (λk c hk=>?_) (λk c hk=>?_) (λk c hk=>?_)
  all_goals
   obtain⟨y,h1,h2,h3⟩:=hcell k c hk;have hgd:b.getD k undef=y:=by
    rw[qGL,h1];rfl
   try dsimp only
   rw[hgd]
  simp_all;omega;omega
 grind
end
def kU{l nv:List Value}{off:Nat}(h:off+nv.length<=l.length)(k:Nat):(l.take off++nv++l.drop (off+nv.length))[k]? =if off<=k/\k<off+nv.length then nv[k -off]? else l[k]?:=by
 have b:(l.take off).length=off:=by grind
 grind
def ug{Q:Value->D->Prop}{xs:List Value}{ds new:List D}{nv:List Value}{off:Nat}(hl:xs.length=ds.length)(h:aS Q xs ds)(hn:nv.length=new.length)(j:aS Q nv new)
 (b:off+new.length<=ds.length):aS Q (xs.take off++nv++xs.drop (off+nv.length)) (setAt ds off new):=by
 intro k y c d hc;rw[Kn b]at hc;rw[kU (by omega),hn]at d;split at hc
 ·rename_i hk;rw[if_pos hk]at d;grind [aS]
 ·rename_i hk;rw[if_neg hk]at d;grind [aS]
def py(w:World)(g:Nat)(cs:Array Value):GrB w (w.setRow g cs) (some g):=
 ⟨⟨rfl,rfl,rfl,by simp,λk _ hk=>setRow_other w g k cs (λe=>hk (by rw[e]))⟩,qGb _⟩
section
variable {P:Program}{o:Oper}{a:Act}{tp I:Nat->Prop}{w:World}{σ:Sg}{K:D->Prop}
theorem qkI{n:Nat}(hn:0<n){es:List D}(h:∀d∈es,d.cells.length=n){i off:Nat}{d e:D}{new:List D}(hi:es[i]? =some d)(he:e.cells=setAt d.cells off new)(t:off+new.length<=n):
 bq (es.set i e)=setAt (bq es) (i*n+off) new:=by
 have l:i<es.length:=(qF4.1 hi).1;have F:=h d (qF7 hi);have A:e.cells.length=n:=by grind [oq]
 have u:∀x∈es.set i e,x.cells.length=n:=λx J=>by
  grind
 have C:=ba h;have y:=ba u;have p:(i+1) *n<=es.length*n:=qGw n l;rw[qHc]at p;apply qGN;intro k;have b:k % n<n:=qHu _ hn;have hk:k=k/n*n+k % n:=by grind [Nat.div_add_mod]
 have c:i*n+off+new.length<=(bq es).length:=by omega
 rw[hk,ij u b,List.getElem?_set,Kn c];generalize L:k/n=q;generalize E:k % n=r;rw[E]at b;by_cases j:i=q
 ·subst j;simp only[if_true,l,qGt,he];rw[Kn (by omega),ij h b,hi];grind
 ·rw[if_neg j,ij h b];rcases Nat.lt_or_gt_of_ne j with s|hgt
  ·have:i*n+n<=q*n:=by rw[<-qHc];exact qGw n s
   grind
  ·have:q*n+n<=i*n:=by rw[<-qHc];exact qGw n hgt
   grind
def HW{t:TypeId}{sz:Nat}(hs:cx P t=some sz){v:Value}(h:v.cells.size=sz){b off el:Nat}{cur:Array Value}(d:w.heap[b]? =some (.cells cur el (0,0)))(c:off+sz<=cur.size)(h1:∀x∈v.cells.toList,x.oneCell'=true):
 (storeVar t ⟨b,off,none⟩ v).run P w= .ok () (w.setRow b (cur.toList.take off++v.cells.toList++cur.toList.drop (off+v.cells.toList.length)).toArray):=by
 have:=run_storeCells_at P b off el v.cells.toList 0 cur w d (by grind) h1;simp_all [storeVar,aZ]
theorem qbm(t A ty e:TypeId)(i:TypeInfo)(z:Value)(F:P.underlying t=some (.slice e))(hi:P.info? e=some i)(hz:i.zero=some z)(J:z.cells.size=i.size)
 (v:Value) (n:Nat) (xs:List Value) (c:w.ownsRow 0 e i.size v n xs) (x:Value) (m:Nat) (news:List Value) (hs:Src P i.size A x m news w)
 (O:n+m<=140737488355328) (l:(n+m) *i.bytes<=140737488355328):
 ∃v' w',(Builtin.append_ #[t,A] ty #[v,x]).run P w= .ok v' w'/\w'.ownsRow 0 e i.size v' (n+m) (xs++news)/\GrB w w' v.ownBlock/\(∀b,v'.ownBlock=some b->w.heap.size<=b\/v.ownBlock=some b):=by
 have hl:=hs.newsLen;have hlen:(xs++news).length=(n+m) *i.size:=by rw[qGC,c.1,hl,qHy]
 have p:∀(d:Nat),d<n+m->∀(row:Option Nat),
  (w.drew.alloc (.cells ((xs++news).toArray++Builtin.zeroCells z.cells (grownCap w (n+m) d e - (n+m))) e)).ownsRow 0 e i.size
    (.slice (some ⟨w.heap.size,0,none⟩) (n+m) (grownCap w (n+m) d e)) (n+m) (xs++news)/\
  GrB w (w.drew.alloc (.cells ((xs++news).toArray++Builtin.zeroCells z.cells (grownCap w (n+m) d e - (n+m))) e)) row:=by
  intro d _ row;have L:=grownCap_ge w (n+m) d e;have r:grownCap w (n+m) d e<=maxLen:=grownCap_le_maxLen w (n+m) d e (by grind [maxLen]);refine⟨⟨hlen, .inr ⟨w.heap.size,_,_,rfl,qGr _,heap_alloc_new w.drew _,L,r,?_,?_⟩⟩,⟨⟨rfl,rfl,rfl,by simp,λk hk _=>qIa w.drew _ k hk⟩,qHp _⟩⟩
  ·simp only[qIl,qHn,size_zeroCells,J,hlen,<-qHy];grind
  grind
 rcases c.2 with⟨rfl,rfl⟩|⟨g,cap,cur,rfl,Q,N,S,r,M,s⟩
 ·have U:xs=[]:=qGk (by grind);subst U;by_cases hm:m=0
  ·subst hm;have hn:news=[]:=qGk (by simpa using hl);subst hn;refine⟨.slice none 0 0,w,?_,by simpa using c,gm _ _,λb hb=> .inr hb⟩;have hc:=hs.cells;rcases hs.kind with⟨W,hk⟩|hk<;>simp[Builtin.append_,run_underlying F,run_underlying hk,sizeOf,typeInfo,hi,hs.len,hc]
  ·have y:=run_append_grow_src (P:=P) w t A ty e i z F hi hz none 0 0 [] (by simpa using run_firstCells_none w.drew i.size 0 0 0) x m news hs (by omega) (by omega) (growslice_fits (by omega) (by simpa using l));have q:=p 0 (by omega) (Value.ownBlock (.slice none 0 0));simp only[qGS,qG1]at q y ⊢;exact⟨_,_,y,q.1,q.2,λb hb=> .inl (by simp[Value.ownBlock]at hb;omega)⟩
 ·by_cases h:n+m<=cap
  ·have C:n*i.size+news.length<=cur.size:=by rw[hl,M,<-qHy];exact qGw _ h
   have E:=run_storeCells_at P g (n*i.size) e news 0 cur w N C hs.one;simp only[qHq]at E;have y:(Builtin.append_ #[t,A] ty #[.slice (some ⟨g,0,none⟩) n cap,x]).run P w= .ok (.slice (some ⟨g,0,none⟩) (n+m) cap) (w.setRow g (cur.toList.take (n*i.size) ++news++cur.toList.drop (n*i.size+news.length)).toArray):=by
    rcases hs.kind with⟨W,hk⟩|hk<;>simp[Builtin.append_,run_underlying F,run_underlying hk,sizeOf,typeInfo,hi,hs.len,h,hs.cells,Addr.add_lit,E]
   refine⟨_,_,y,⟨hlen, .inr ⟨g,cap,_,rfl,qGr _,setRow_heap w g cur _ e _ N,h,r,?_,?_⟩⟩,py _ _ _,λb hb=> .inr hb⟩
   ·simp only[qHn,qGC,qGv,qG9,qGV];omega
   ·rw[s,<-hlen];exact List.take_left
  ·have holds:∀j u,xs[j]? =some u->w.cell? ((⟨g,0,none⟩:Addr).add j)=some u:=c.cells (g:=g) rfl;have y:=run_append_grow_src (P:=P) w t A ty e i z F hi hz (some ⟨g,0,none⟩) n cap xs (run_firstCells_some w.drew i.size n ⟨g,0,none⟩ n cap xs c.1 (by simpa using holds)) x m news hs (by omega) (by omega) (growslice_fits (by omega) l);have q:=p cap (by omega) (Value.ownBlock (.slice (some ⟨g,0,none⟩) n cap));exact⟨_,_,y,q.1,q.2,λb hb=> .inl (by simp[Value.ownBlock]at hb;omega)⟩
end
end Go.Gv
