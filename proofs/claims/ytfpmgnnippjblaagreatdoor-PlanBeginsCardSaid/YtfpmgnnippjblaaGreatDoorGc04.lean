/- S6 -/
import Derived.Lib.AppendZeros
import Derived.Lib.OthersKept
import Derived.Laws.IdiomStrings
import Derived.Test.YtfpmgnnippjblaaGreatDoorGc03
set_option linter.all false
namespace Go.Gv
def de(P:Program)(o:Oper)(a:Act)(E:BU)(tp:Nat->Prop)(H:ab)(w:World)(K:D->ab->Prop):Prop:=
 ∃b x d H' w',(execOp a.eval o).run P w= .ok b w'/\(b= .value x\/(b= .skip/\x=Go.undef))/\
  (StW E tp H' w'/\∀y e,R tp (be E.O tp H w) w y e->R tp (be E.O tp H' w') w' y e)/\R tp (be E.O tp H' w') w' x d/\K d H'
section
variable {P:Program}{o:Oper}{a:Act}{E:BU}{tp:Nat->Prop}{H:ab}{w:World}{σ:Sg}
def GoodN.og{c:D->Prop}{K:D->ab->Prop}(b:StW E tp H w)(h:GoodN P o a E tp H w c)(hk:∀d,c d->K d H):de P o a E tp H w K:=by
 let ⟨x,d,w',h1,h2,h3,h4⟩:=h
 have hm:=b.grow h2;exact⟨_,x,d,H,w',h1, .inl rfl,hm,h3 hm.1 hm.2,hk d h4⟩
def pi{t:Nat}{ob:Obj}{r':Res}(c:StW E tp H w)(hb:∀b,r'.blk=some b->b=w.heap.size)
 (h:(∀x d,R tp (be E.O tp H w) w x d->R tp (be E.O tp (aj H t (some r')) (w.alloc ob)) (w.alloc ob) x d)->ResOk (R tp (be E.O tp (aj H t (some r')) (w.alloc ob)) (w.alloc ob)) (w.alloc ob) r'):
 StW E tp (aj H t (some r')) (w.alloc ob)/\∀x d,R tp (be E.O tp H w) w x d->R tp (be E.O tp (aj H t (some r')) (w.alloc ob)) (w.alloc ob) x d:=
 c.own t (some r') (GrB.alloc w ob none) (λb hb=>by grind) (λr b h1 h2=>by grind) (λm r h1=>by grind)
def qjN{el t:Nat}{z:List Value}{K:D->ab->Prop}(c:StW E tp H w)(ho:o.op= .alloc el)(hz:cv P el=some z)(h:∀b,K (.bptr t b 0) (aj H t (some (.box b (z.map rk))))):de P o a E tp H w K:=by
 let ⟨i,d,hi,j,k,l,p,q⟩:=eB hz
 refine⟨_, .pointer (some ⟨w.heap.size,0,none⟩), .bptr t w.heap.size 0,_,w.alloc (.cells d.cells el),?_, .inl rfl,pi (r':= .box w.heap.size (z.map rk)) c (λb hb=>by cases hb;rfl) (λm=>?_), .bptr _ _ _,h _⟩;simp_all [execOp,Instr.alloc,zeroValue,typeInfo,newVar,newRow]
 ·exact⟨d.cells,el,heap_alloc_new _ _,by grind,by grind [aS,StW,cv,lD]⟩
def qrh{el t:Nat}{x:Operand}{K:D->ab->Prop}(c:StW E tp H w)(ho:o.op= .box el x)(h:R tp (be E.O tp H w) w (a.eval x) (ev σ x))(d:(ev σ x).kn=true)(j:∀b,K (.bptr t b 0) (aj H t (some (.box b (ev σ x).cells)))):de P o a E tp H w K:=by
 refine⟨_, .pointer (some ⟨w.heap.size,0,none⟩), .bptr t w.heap.size 0,_,w.alloc (.cells (a.eval x).cells el),?_, .inl rfl,pi (r':= .box w.heap.size (ev σ x).cells) c (λb hb=>by cases hb;rfl) (λm=>?_), .bptr _ _ _,j _⟩;simp_all [execOp,Instr.box,newVar,newRow]
 ·let ⟨c1,c2⟩:=(m _ _ h).cells d
  exact⟨(a.eval x).cells,el,heap_alloc_new _ _,by omega,c2⟩
def qre{el t:Nat}{x:Operand}{K:D->ab->Prop}(c:StW E tp H w)(ho:o.op= .box el x)(h:R tp (be E.O tp H w) w (a.eval x) (ev σ x))(d:(ev σ x).kn=true)(j:∀b,K (.bptr t b 0) (aj H t (some (.tbox el b (ev σ x).cells)))):de P o a E tp H w K:=by
 refine⟨_, .pointer (some ⟨w.heap.size,0,none⟩), .bptr t w.heap.size 0,_,w.alloc (.cells (a.eval x).cells el),?_, .inl rfl,pi (r':= .tbox el w.heap.size (ev σ x).cells) c (λb hb=>by cases hb;rfl) (λm=>?_), .bptr _ _ _,j _⟩;simp_all [execOp,Instr.box,newVar,newRow]
 ·let ⟨c1,c2⟩:=(m _ _ h).cells d
  exact⟨(a.eval x).cells,heap_alloc_new _ _,by omega,c2⟩
theorem qgv{el n t:Nat}{ty:TypeId}{parts:Array (Nat×Operand)}{z:List Value}{K:D->ab->Prop}(j:StW E tp H w)(ho:o.op= .buildSlice ty 0 parts)(C:P.underlying ty=some (.slice el))(hs:cx P el=some n)(hz:cv P el=some z)(l:yD parts 0=some [])
 (p:∀x,K (.own t x) (aj H t (some (.row x el n [])))):de P o a E tp H w K:=by
 have hp:parts= #[]:=by
  simp_all [yD]
 let ⟨i,F,hi,q,r,s,u,A⟩:=eB hz
 have d:∀(w':World) (b:Nat),w'.heap[b]? =some (.cells #[] el (0,0))->w'.ownsRow 0 el n (.slice (some ⟨b,0,none⟩) 0 0) 0 []:=λw' b hb=>
  ⟨by simp, .inr ⟨b,0, #[],rfl,qGr _,hb,qGb _,qGr _,by simp,by simp⟩⟩
 refine⟨_, .slice (some ⟨w.heap.size,0,none⟩) 0 0, .own t (.slice (some ⟨w.heap.size,0,none⟩) 0 0),_,w.alloc (.cells #[] el),?_, .inl rfl,pi (r':= .row (.slice (some ⟨w.heap.size,0,none⟩) 0 0) el n []) j (λb hb=>by cases hb;rfl) (λm=>?_), .own _ _ rfl,p _⟩;simp_all [execOp,Instr.buildSlice,Instr.fill,newRow,Array.range_zero',run_underlying,aZ]
 ·exact⟨[],d _ _ (heap_alloc_new _ _),by simp,λk y c h=>by grind⟩
theorem qgw{ty el:TypeId}{n len t:Nat}{parts:Array (Nat×Operand)}{M:List Operand}{z0:List Value}{K:D->ab->Prop}(S:StW E tp H w)(ho:o.op= .buildSlice ty len parts)(ht:P.underlying ty=some (.slice el))(hs:cx P el=some n)
 (hz:cv P el=some z0) (s:yD parts len=some M) (hlim:len*n<=2^24) (hn:0<n) (U:len≠0) (hr:∀x∈M,R tp (be E.O tp H w) w (a.eval x) (ev σ x)) (W:km n (M.map (ev σ)))
 (hv:∀x,K (.own t x) (aj H t (some (.row x el n (M.map (ev σ)))))):de P o a E tp H w K:=by
 unfold yD at s;split at s
 ·rename_i q;cases s;have hlen:parts.toList.length=len:=by
   have:=congrArg List.length q;grind
  let ⟨i,N,hi,Y,hzc,hsz,hz1,hz2⟩:=eB hz
  have r:=Az W;have Z:∀v∈ (parts.toList.map (·.2)).map a.eval,v.cells.size=n:=by
   intro v hv';obtain⟨x,A,rfl⟩:=qGd.1 hv';have h1:=r (ev σ x) (qGd.2 ⟨x,A,rfl⟩);have:=((hr x A).cells h1.1).1;grind
  have C:¬(len*n=0):=by
   grind [StW,cx,cv,Nat.mul_eq_zero]
  let ⟨h,r1,r2,r3,r4⟩:=P4 (n:=n) ((parts.toList.map (·.2)).map a.eval) 0 ((Array.range (len*n)).map (N.cells[· % N.cells.size]!)) Z (by grind)
  have l:(List.range' 0 ((parts.toList.map (·.2)).map a.eval).length).zip ((parts.toList.map (·.2)).map a.eval)=parts.toList.map λp=>(p.1,a.eval p.2):=by
   have e1:List.range' 0 ((parts.toList.map (·.2)).map a.eval).length=parts.toList.map (·.1):=by
    rw[q,qHZ];simp[hlen]
   rw[e1,List.map_map,List.zip_map', ];rfl
  rw[l]at r1;have F:(Instr.buildSlice ty len (parts.map λ(i,x)=>(i,a.eval x))).run P w= .ok (.slice (some ⟨w.heap.size,0,none⟩) len len) (w.alloc (.cells h el)):=by
   have hl:¬(16777216<len*n):=by lia
   have r1':Instr.fill (λi=>some (i*n,n)) ((Array.range (len*n)).map (N.cells[· % N.cells.size]!)) (parts.toList.map λp=>(p.1,a.eval p.2))=some h:=r1;simp[Instr.buildSlice,run_underlying ht,aZ hs,hl,C,zeroValue,typeInfo,hi,Y,r1',newRow]
  have I:h.size=len*n:=by rw[r2];simp
  have u:∀d∈ (parts.toList.map (·.2)).map (ev σ),d.kn=true/\d.cells.length=n:=r;have j:((parts.toList.map (·.2)).map (ev σ)).length=len:=by simp[hlen]
  refine⟨_, .slice (some ⟨w.heap.size,0,none⟩) len len, .own t (.slice (some ⟨w.heap.size,0,none⟩) len len),_,w.alloc (.cells h el),by simp[execOp,ho,F], .inl rfl,
   pi (r':= .row (.slice (some ⟨w.heap.size,0,none⟩) len len) el n ((parts.toList.map (·.2)).map (ev σ))) S (λb hb=>by cases hb;rfl) (λm=>?_), .own _ _ rfl,hv _⟩
  refine⟨h.toList,⟨?_, .inr ⟨w.heap.size,len,h,by rw[j],qGr _,heap_alloc_new _ _,by rw[j];exact qGb _,by have:len<=len*n:=qHO _ hn;simp[maxLen];lia,I,?_⟩⟩,u,?_⟩;grind;grind [StW,cx,cv,List.take_of_length_le]
  ·intro k y c hy hk
   let ⟨d,Q,hdc,J,he⟩:=AP hn (λd Q=>(u d Q).2) hk
   rw[qGn]at Q;obtain⟨x,A,rfl⟩:=aV Q;have L:x∈parts.toList.map (·.2):=qF7 A;have hRx:=m _ _ (hr x L);have hkx:=u (ev σ x) (qGd.2 ⟨x,L,rfl⟩)
   let ⟨c1,c2⟩:=hRx.cells hkx.1
   have hvx:((parts.toList.map (·.2)).map a.eval)[k/n]? =some (a.eval x):=by rw[qGn,A];rfl
   have:=r4 (k/n) (k % n) _ hvx J;rw[qGS,<-he]at this;have hy':h[k]? =some y:=by simpa using hy
   rw[hy']at this;exact c2 (k % n) y c (by simpa using this.symm) hdc
 grind
def RY{z:List Value}(hz:0<z.length)(N k:Nat)(hk:k<N):(madeCells z.toArray N)[k]? =z[k % z.length]?:=by
 have hm:k % z.length<z.length:=qHu _ hz;grind [madeCells]
theorem qcO{el n t:Nat}{ty:TypeId}{agg:Bool}{z:List Value}{lo co:Operand}{U W:IntKind}{l c:Int}{K:D->ab->Prop}(C:StW E tp H w)(ho:o.op= .makeSlice ty lo co)(ht:P.underlying ty=some (.slice el))(hs:cx P el=some n)(hz:cv P el=some z)
 (hn:0<n) (Y:(agg||n=1)=true) (hl:a.eval lo= .int U l) (hc:a.eval co= .int W c) (h0:0<=l) (F:l<=c) (hb:(P.bytesOf el:Int) *c<=140737488355328) (h63:c<=140737488355328)
 (Z:∀x,K (.own t x) (aj H t (some (.row x el n (List.replicate l.toNat (if agg then .agg (z.map rk)else rk (z.headD (.bool false)))))))):de P o a E tp H w K:=by
 let ⟨i,I,hi,J,hzc,hsz,L,M⟩:=eB hz
 have hbi:i.bytes=P.bytesOf el:=by grind [Program.bytesOf]
 have N:i.size=n:=by
  grind [cx]
 have j:z.length=n:=by lia
 have hrun:=run_make (P:=P) w ty el i I ht hi J U W l c h0 F (by grind) (by lia);have p:I.cells=z.toArray:=by grind
 generalize hE:(if agg then D.agg (z.map rk)else rk (z.headD (.bool false)))=u at Z;have O:u.kn=true/\u.cells=z.map rk:=by
  rw[<-hE];cases agg with
  |true=>exact⟨rfl,rfl⟩
  | false=>
    match z,j with
    | [y],_=>
      grind [rk,D.kn,D.cells]
    | [],h=>grind
    | _::_::_,h=>grind
 have q:∀d∈List.replicate l.toNat u,d.kn=true/\d.cells.length=n:=λd A=>by
  grind
 refine⟨_, .slice (some ⟨w.heap.size,0,none⟩) l.toNat c.toNat, .own t (.slice (some ⟨w.heap.size,0,none⟩) l.toNat c.toNat),_,w.alloc (.cells (madeCells I.cells (c.toNat*i.size)) el),?_, .inl rfl,
  pi (r':= .row (.slice (some ⟨w.heap.size,0,none⟩) l.toNat c.toNat) el n (List.replicate l.toNat u)) C (λb hb=>by cases hb;rfl) (λm=>?_), .own _ _ rfl,Z _⟩
 grind [execOp,Sem.run_bind,Result.andThen_ok,Sem.run_pure]
 ·rw[N,p];refine⟨(madeCells z.toArray (c.toNat*n)).toList.take (l.toNat*n),⟨?_, .inr ⟨w.heap.size,c.toNat,madeCells z.toArray (c.toNat*n),by simp,qGr _,heap_alloc_new _ _,by simp;lia,by simp[maxLen];lia,by simp[madeCells],by simp⟩⟩,q,?_⟩
  ·simp[madeCells];rw[show min l.toNat c.toNat=l.toNat by lia]
  ·intro k y c' r Q
   let ⟨d,A,s,hmod,he⟩:=AP hn (λd A=>(q d A).2) Q
   have S:=qH8 (qF7 A);subst S;rw[O.2]at s;rw[qGo]at r;split at r
   ·have hle:l.toNat*n<=c.toNat*n:=qGw n (by lia);rw[qGx,RY (by lia) _ k (by lia),j]at r;exact lD M L (k % n) y c' r s
   ·cases r
theorem qjJ{t:TypeId}{sz:Nat}{x y:Operand}{K:D->ab->Prop}(s:StW E tp H w)(ho:o.op= .store t x y)(hs:cx P t=some sz)
 (Q:R tp (be E.O tp H w) w (a.eval x) (ev σ x)) (hy:R tp (be E.O tp H w) w (a.eval y) (ev σ y)) {rt:Option Nat} (u:bj (.store rt sz x y) o.dst σ H K):de P o a E tp H w K:=by
 simp[bj]at u
 let ⟨S,hlen,u⟩:=u
 let ⟨c1,c2⟩:=hy.cells S
 have F:(a.eval y).cells.size=sz:=by grind
 have A:∀q∈ (a.eval y).cells.toList,q.oneCell'=true:=λq U=>by
  let ⟨k,hk⟩:=qGp.1 U
  have hlt:k<(ev σ y).cells.length:=by grind
  exact(c2 k q _ hk (qF6 hlt)).1
 generalize U:a.eval x=q at Q;split at u
 ·rename_i id b off e1;rw[e1]at Q;cases Q;split at u
  ·rename_i b' cells I
   let ⟨rfl,W,hk⟩:=u
   let ⟨xs,el,N,g2,J⟩:=s.sat.ok id _ I
   have C:=HW (P:=P) hs F (b:=b') (off:=off) N (by lia) A;have L:=setRow_heap w b' xs (xs.toList.take off++ (a.eval y).cells.toList++xs.toList.drop (off+ (a.eval y).cells.toList.length)).toArray el (0,0) N;refine⟨.skip,Go.undef, .undef,_,w.setRow b' (xs.toList.take off++ (a.eval y).cells.toList++xs.toList.drop (off+ (a.eval y).cells.toList.length)).toArray,?_, .inr ⟨rfl,rfl⟩,s.own id (some (.box b' (setAt cells off (ev σ y).cells))) (py w b' _) (λb hb=>by cases hb;exact⟨_,I,rfl⟩) (λr b h1 h2=>by cases h1;cases h2;exact .inr ⟨_,I,rfl⟩) (λm r h1=>?_), .undef,hk⟩;simp_all [execOp,Instr.storeAt,Instr.sureAddr]
   ·cases h1;refine⟨_,el,L,?_,?_⟩;grind [StW,cx,oq]
    ·refine ug (by omega) (λk y c h1 h2=>⟨(J k y c h1 h2).1,m _ _ (J k y c h1 h2).2⟩) c1 (λk y c h1 h2=>⟨(c2 k y c h1 h2).1,m _ _ (c2 k y c h1 h2).2⟩) (by lia)
  grind
 ·rename_i id y' n i off e1;rw[e1]at Q;cases Q with
  | eptr _ b len cap _ _ _=>
    split at u
    ·rename_i x' el j es I;obtain⟨rfl,rfl,hn0,W,hi,hk⟩:=u
     let ⟨xs,⟨N,g2⟩,J,g4⟩:=s.sat.ok id _ I
     have p:es[i]? =some es[i]:=by simp[hi]
     have hk:=hk _ p;have hdn:=(J _ (qF7 p)).2;generalize hE:(if off=0/\sz=j then ev σ y else D.agg (setAt es[i].cells off (ev σ y).cells))=e0 at hk;have M:e0.kn=true/\e0.cells=setAt es[i].cells off (ev σ y).cells:=by
      rw[<-hE];split
      ·rename_i h;refine⟨S,?_⟩;have h1:off=0:=h.1;have h2:(ev σ y).cells.length=es[i].cells.length:=by lia
       simp[setAt,h1,h2]
      ·exact⟨rfl,rfl⟩
     rcases g2 with⟨h,_⟩|⟨g,cap',cur,hg,_,g5,g6,g7,g8,g9⟩
     ·cases h
     ·cases hg;have hle:(i+1) *j<=cap*j:=qGw j (by lia);rw[qHc]at hle;have C:=HW (P:=P) hs F (b:=b) (off:=i*j+off) g5 (by lia) A;have L:=setRow_heap w b cur (cur.toList.take (i*j+off) ++ (a.eval y).cells.toList++cur.toList.drop (i*j+off+ (a.eval y).cells.toList.length)).toArray el (0,0) g5;have hfl:=ba (es:=es) (λd p=>(J d p).2);have Y:(i+1) *j<=es.length*j:=qGw j hi;rw[qHc]at Y;refine⟨.skip,Go.undef, .undef,_,w.setRow b (cur.toList.take (i*j+off) ++ (a.eval y).cells.toList++cur.toList.drop (i*j+off+ (a.eval y).cells.toList.length)).toArray,?_, .inr ⟨rfl,rfl⟩,
       s.own id (some (.row (.slice (some ⟨b,0,none⟩) es.length cap) el j (es.set i e0))) (py w b _) (λq U=>by cases U;exact⟨_,I,rfl⟩) (λr q h1 h2=>by cases h1;cases h2;exact .inr ⟨_,I,rfl⟩) (λm r h1=>?_), .undef,hk⟩
      ·simp[execOp,ho,U,Instr.storeAt,Instr.sureAddr,C]
      ·cases h1;have l:(a.eval y).cells.toList.length=sz:=by simpa using F
       have hxs:xs.length=(bq es).length:=by rw[N,hfl]
       have htk:(cur.toList.take (i*j+off) ++ (a.eval y).cells.toList++cur.toList.drop (i*j+off+ (a.eval y).cells.toList.length)).take (es.length*j)=
        xs.take (i*j+off) ++ (a.eval y).cells.toList++xs.drop (i*j+off+ (a.eval y).cells.toList.length):=by
        apply qGN;intro k;rw[kU (by lia),qGo,kU (by simp;lia),l];by_cases h1:k<es.length*j
        ·rw[if_pos h1];by_cases h2:i*j+off<=k/\k<i*j+off+sz
         ·rw[if_pos h2,if_pos h2]
         ·rw[if_neg h2,if_neg h2,<-g9,qGo,if_pos h1]
        ·rw[if_neg h1,if_neg (by lia)];rw[qGu (by rw[N];lia)]
       have hnl:(xs.take (i*j+off) ++ (a.eval y).cells.toList++xs.drop (i*j+off+ (a.eval y).cells.toList.length)).length=es.length*j:=by
        simp[qGC,qGv,qG9,l,N];lia
       have hml:(cur.toList.take (i*j+off) ++ (a.eval y).cells.toList++cur.toList.drop (i*j+off+ (a.eval y).cells.toList.length)).toArray.size=cap*j:=by
        simp[qHn,qGC,qGv,qG9,l,qGV,g8];lia
       have Z:i*j+off+ (ev σ y).cells.length<=(bq es).length:=by lia
       refine⟨xs.take (i*j+off) ++ (a.eval y).cells.toList++xs.drop (i*j+off+ (a.eval y).cells.toList.length),⟨by rw[qIb];exact hnl, .inr ⟨b,cap,_,by rw[qIb],qGr _,L,by simpa using g6,g7,hml,by rw[qIb];exact htk⟩⟩,λd p=>?_,?_⟩
       ·rcases qHd p with p|rfl
        ·exact J d p
        ·exact⟨M.1,by rw[M.2,oq (by lia)];exact hdn⟩
       ·rw[qkI hn0 (λd p=>(J d p).2) p M.2 (by lia)];exact ug hxs (λk y c h1 h2=>⟨(g4 k y c h1 h2).1,m _ _ (g4 k y c h1 h2).2⟩) c1 (λk y c h1 h2=>⟨(c2 k y c h1 h2).1,m _ _ (c2 k y c h1 h2).2⟩) Z
    ·exact u.elim
 grind
theorem YZ{n:Nat}{d:D}{x:Value}{K:List D->Prop}(Q:StW E tp H w)(hx:R tp (be E.O tp H w) w x d)(hn:0<n)(A:mQ n d H K):
 ∃es,K es/\(∀d∈es,d.kn=true/\d.cells.length=n)/\∃(S:Option Addr) (c:Nat) (news:List Value),x= .slice S es.length c/\(S=none->es.length=0)/\news.length=es.length*n/\
  (∀a,S=some a->∀j u,news[j]? =some u->w.cell? (a.add j)=some u)/\(∀u∈news,u.oneCell'=true)/\aS (R tp (be E.O tp H w) w) news (bq es):=by
 unfold mQ at A;split at A
 ·rename_i n' es
  let ⟨rfl,hk⟩:=A
  cases hx with
  |nolist S cap _=>exact⟨[],hk,by simp,S,cap, [],rfl,λ_=>rfl,by simp,λ_ _ j u h=>by grind,by simp,λk y c h=>by grind⟩
  | list b off cap _ _ f hI hc hm _ U hcell s hr=>
    have C:=ba (es:=es) (λd F=>(U d F).2);have hc':∀k,k<es.length*n'->∃c,(bq es)[k]? =some c:=λk hk=>⟨(bq es)[k]'(by lia),qF6 (by lia)⟩
    refine⟨es,hk,U,some ⟨b,off,none⟩,cap,(List.range (es.length*n')).map f,rfl,(λh=>by cases h),by simp,λa L j u r=>?_,λu r=>?_,λk y c M hc=>?_⟩
    ·cases L;rw[lC];grind
    grind;grind
 ·rename_i id y;cases hx with
  | own _ _ h1=>
    split at A
    ·rename_i x' el n' es hH
     let ⟨rfl,rfl,hk⟩:=A
     let ⟨xs,q,N,W⟩:=Q.sat.ok id _ hH
     have s:∀u∈xs,u.oneCell'=true:=λu r=>by
      let ⟨k,Y⟩:=qGp.1 r
      have C:=ba (es:=es) (λd F=>(N d F).2);have t:k<(bq es).length:=by rw[C,<-q.1];exact(qF4.1 Y).1
      exact(W k u _ Y (qF6 t)).1
     have I:=q
     let ⟨Z,g2⟩:=q
     rcases g2 with⟨rfl,h⟩|⟨g,cap,cur,rfl,_⟩
     ·have:es=[]:=qGk h;subst this;exact⟨[],hk,by simp,none,0, [],rfl,λ_=>rfl,by simp,λ_ _ j u h=>by simp at h,by simp,λk y c h=>by simp at h⟩
     ·refine⟨es,hk,N,some ⟨g,0,none⟩,cap,xs,rfl,(λh=>by cases h),Z,λa L j u r=>?_,s,W⟩;cases L;exact I.cells rfl j u r
    grind
 ·have:=hx.inv_v;subst this;exact⟨[],A,by simp,none,0, [],rfl,λ_=>rfl,by simp,λ_ _ j u h=>by simp at h,by simp,λk y c h=>by simp at h⟩
 ·rename_i id y n' lo hi;split at A
  ·rename_i x' el l es hH;obtain⟨hxe,rfl,rfl,hk⟩:=A;subst hxe
   let ⟨xs,q,N,W⟩:=Q.sat.ok id _ hH
   have C:=ba (es:=es) (λd F=>(N d F).2)
   let ⟨Z,g2⟩:=q
   cases hx with
   |subnil=>exact⟨_,hk,by simp,none,0, [],by simp,λ_=>by simp,by simp,λ_ _ j u h=>by simp at h,by simp,λk y c h=>by simp at h⟩
   | sub _ b len cap _ _ _ p h1 h2 h3 hm hp=>
     rcases g2 with⟨h,_⟩|⟨g,cap',cur,h,_,g5,g6,g7,g8,g9⟩
     ·cases h
     ·cases h;have hcell:=(show w.ownsRow 0 el l (.slice (some ⟨b,0,none⟩) es.length cap) es.length xs from⟨Z, .inr ⟨b,cap,cur,rfl,qGr _,g5,g6,g7,g8,g9⟩⟩).cells (g:=b) rfl;have hlen:((es.take hi).drop lo).length=hi -lo:=by simp;lia
      have hmul:(hi -lo) *l+lo*l=hi*l:=by rw[<-qHy];congr 1;lia
      have hmul2:hi*l<=es.length*l:=qGw l h2;have J:∀(k:Nat) (c:D),(bq ((es.take hi).drop lo))[k]? =some c->(bq es)[lo*l+k]? =some c:=by
       intro k c hk;rw[TB (n:=l) lo (λd F=>(N d (qGq F)).2)]at hk;exact mU hk
      have s:∀(k:Nat) (u:Value),xs[k]? =some u->u.oneCell'=true:=λk u r=>by
       have t:k<(bq es).length:=by rw[C,<-Z];exact(qF4.1 r).1
       exact(W k u _ r (qF6 t)).1
      refine⟨_,hk,λd F=>N d (qGq (qGO F)),p,cap -lo,(xs.drop (lo*l)).take ((hi -lo) *l),by rw[hlen],λhpn=>?_,?_,λa L j u r=>?_,λu r=>?_,λk y c M hc=>?_⟩
      ·rw[hlen];by_cases t:lo<cap
       ·have:=hp (.inl t);rw[hpn]at this;cases this
       ·lia
      ·rw[hlen,qGv,qG9,Z];lia
      ·rw[qGo]at r;split at r
       ·rename_i hj;rw[qG8]at r;have t:lo<hi:=by
         rcases Nat.lt_or_ge lo hi with h|h
         ·exact h
         ·rw[Nat.sub_eq_zero_of_le h,Nat.zero_mul]at hj;lia
        have:=hp (.inl (by lia));rw[this]at L;cases L;have hc:=hcell _ u r;rw[lC]at hc ⊢;simpa using hc
       ·cases r
      ·let ⟨j,hj⟩:=qGp.1 (qGO (qGq r))
       exact s j u hj
      ·rw[qGo]at M;split at M
       ·rw[qG8]at M;exact W _ y c M (J k c hc)
       ·cases M
  ·exact A.elim
 grind
theorem qf2{n:Nat}{d:D}{x:Value}{A:TypeId}{K:List D->Prop}(C:StW E tp H w)(hk:(∃W,P.underlying A=some (.slice W))\/P.underlying A=some .string)(U:R tp (be E.O tp H w) w x d)(hn:0<n)(r:uP n d H K):
 ∃es,K es/\(∀d∈es,d.kn=true/\d.cells.length=n)/\∃news:List Value,Src P n A x es.length news w/\aS (R tp (be E.O tp H w) w) news (bq es):=by
 unfold uP at r;split at r
 ·rename_i s;obtain⟨rfl,r⟩:=r;have F:=U.inv_v;subst F;have hsl:(HV s).length=s.size:=by
   simp[HV]
  have I:bq (HV s)=HV s:=by
   unfold HV bq
   induction s.data.toList with
   |nil=>rfl
   |cons b l Y=>rw[qGG,qG0,Y];rfl
  refine⟨HV s,r,λd Z=>?_,byteCells s,⟨hk,λ_=>by rw[hsl];rfl,by grind [StW,firstCells_string],by rw[hsl];exact firstCells_string s w.drew,by rw[hsl,byteCells_length,Nat.mul_one],λu hu=>?_⟩,?_⟩
  ·obtain⟨b,_,rfl⟩:=qGd.1 Z;exact⟨rfl,rfl⟩
  ·obtain⟨_,_,rfl⟩:=qGd.1 hu;rfl
  ·rw[I];intro k y c J hc;unfold byteCells at J;unfold HV at hc;rw[qGn]at J hc;obtain⟨b,hb,rfl⟩:=aV J;rw[hb]at hc;cases hc;exact⟨rfl, .int _ _⟩
 ·let ⟨es,L,M,ao,c,news,N,Q,p,q,t,j⟩:=YZ C U hn r
  refine⟨es,L,M,news,?_,j⟩;subst N;cases ao with
  | none=>
    have h0:=Q rfl;have S:news=[]:=qGk (by grind);subst S;rw[h0];exact⟨hk,λ_=>rfl,run_firstCells_none w n 0 0 c,run_firstCells_none w.drew n 0 0 c,by simp,λ_ h=>by cases h⟩
  |some ad=>exact⟨hk,λ_=>rfl,run_firstCells_some w n es.length ad es.length c news p (q ad rfl),run_firstCells_some w.drew n es.length ad es.length c news p (by simp_all),p,t⟩
def QU{Q:Value->D->Prop}{xs b:List Value}{as d:List D}(h:xs.length=as.length)(h1:aS Q xs as)(h2:aS Q b d):aS Q (xs++b) (as++d):=by
 intro k y c j hc;by_cases hk:k<xs.length;grind [aS];grind [aS]
theorem Ti{t tx el:TypeId}{n bytes:Nat}{z:List Value}{c:Call}{x y:Operand}{K:D->ab->Prop}(F:StW E tp H w)(ho:o.op= .call c)(hc:c.callee= .builtin .append)(hat:c.argTypes.toList=[t,tx])(L:c.args.toList=[x,y])
 (ht:P.underlying t=some (.slice el)) (htx:(∃e',P.underlying tx=some (.slice e'))\/P.underlying tx=some .string) (hs:cx P el=some n) (hz:cv P el=some z) (hby:P.bytesOf el=bytes) (hn:0<n)
 (M:R tp (be E.O tp H w) w (a.eval x) (ev σ x)) (Q:R tp (be E.O tp H w) w (a.eval y) (ev σ y)) {rt:Option Nat} (l:bj (.append rt el n bytes x y) o.dst σ H K):de P o a E tp H w K:=by
 let ⟨cl,⟨args⟩,⟨ats⟩⟩:=c
 subst hat;subst L;subst hc;simp[bj]at l
 let ⟨es2,l,S,news,U,s⟩:=qf2 F htx Q hn l
 let ⟨i,zv,hi,hzv,hzc,hsz,hz1,hz2⟩:=eB hz
 have N:i.size=n:=by
  grind [cx]
 have hbi:i.bytes=bytes:=by grind [Program.bytesOf]
 have hzs:zv.cells.size=i.size:=by grind
 generalize hq:a.eval x=q at M;have main:∀(id:Nat) (v:Value) (es:List D) (xs:List Value),q=v->w.ownsRow 0 el n v es.length xs->(∀d∈es,d.kn=true/\d.cells.length=n)->aS (R tp (be E.O tp H w) w) xs (bq es)->
  (∀b,v.ownBlock=some b->∃r,H id=some r/\r.blk=some b)->(es.length+es2.length) *bytes<=140737488355328->es.length+es2.length<=140737488355328->
  (∀v',K (.own id v') (aj H id (some (.row v' el n (es++es2)))))->de P o a E tp H w K:=by
  intro id v es xs hqv j I W J u A hk;obtain⟨v',w',r1,r2,r3,r4⟩:=qbm (P:=P) t tx o.type el i zv ht hi hzv hzs v es.length xs (by rw[N];exact j) (a.eval y) es2.length news (by rw[N];exact U) A (by rw[hbi];exact u);rw[N]at r2;have hfl:=ba (es:=es) (λd hd=>(I d hd).2);have hv1:v'.oneCell'=true:=by
   rcases r2.2 with⟨rfl,_⟩|⟨g,cap,cur,rfl,_⟩ <;>rfl
  refine⟨.value v',v', .own id v',_,w',?_, .inl rfl,F.own id (some (.row v' el n (es++es2))) r3 J (λr b h1 h2=>?_) (λm r h1=>?_), .own _ _ hv1,hk v'⟩
  ·simp[execOp,ho,resolve,invoke,builtin,hq,hqv,r1]
  ·cases h1;rcases r4 b h2 with h3|h3
   ·exact .inl h3
   ·exact .inr (J b h3)
  ·cases h1;refine⟨xs++news,by rw[qGC];exact r2,λd hd=>?_,?_⟩
   ·rcases qGi.1 hd with hd|hd
    ·exact I d hd
    ·exact S d hd
   ·rw[sE];exact QU (by rw[j.1,hfl]) (λk y c h1 h2=>⟨(W k y c h1 h2).1,m _ _ (W k y c h1 h2).2⟩) (λk y c h1 h2=>⟨(s k y c h1 h2).1,m _ _ (s k y c h1 h2).2⟩)
 split at l
 ·rename_i id v Y;rw[Y]at M;cases M with
  | own _ _ h1=>
    split at l
    ·rename_i x' el' n' es Z
     let ⟨rfl,rfl,rfl,u,A,hk⟩:=l
     let ⟨xs,j,g3,g4⟩:=F.sat.ok id _ Z
     exact main id x' es xs rfl j g3 g4 (λb hb=>⟨_,Z,hb⟩) u A hk
    ·exact l.elim
 ·rename_i Y;rw[Y]at M;have:=M.inv_v;split at l
  ·rename_i t' hd;exact main t' (.slice none 0 0) [] [] this (qHo _ _ _ _) (by simp) (λk y c h=>by simp at h) (λb hb=>by simp[Value.ownBlock]at hb) (by simpa using l.1) (by simpa using l.2.1) (by simpa using l.2.2)
  ·exact l.elim
 ·rename_i id y n' lo up Y;rw[Y]at M;split at l
  ·rename_i x' el' C es Z;obtain⟨hxe,rfl,rfl,rfl,rfl,u,A,hk⟩:=l;subst hxe
   let ⟨xs,j,g3,g4⟩:=F.sat.ok id _ Z
   have hlen:(es.take up).length<=up:=by simp;lia
   cases M with
   | subnil=>
     have I:es=[]:=by
      rcases j.2 with⟨_,h⟩|⟨g,cap,cur,h,_⟩
      ·exact qGk h
      ·cases h
     subst I;exact main id (.slice none 0 0) [] [] rfl (qHo _ _ _ _) (by simp) (λk y c h=>by simp at h) (λb hb=>by simp[Value.ownBlock]at hb) (by simpa using u) (by simpa using A) (by simpa using hk)
   | sub _ b len cap _ _ _ p h1 h2 h3 hm hp=>
     have:=hp (.inr rfl);subst this
     let ⟨g1,g2⟩:=j
     rcases g2 with⟨h,_⟩|⟨g,cap',cur,h,g4',g5,g6,g7,g8,g9⟩
     ·cases h
     ·cases h;have hl:(es.take up).length=up:=by simp;lia
      have hmul2:up*C<=es.length*C:=qGw C h2;refine main id (.slice (some ⟨b,0*C,none⟩) (up -0) (cap -0)) (es.take up) (xs.take (up*C)) rfl ?_ (λd hd=>g3 d (qGq hd)) ?_ (λq hq=>⟨_,Z,by simpa [Value.ownBlock,Res.blk]using hq⟩) (by rw[hl];exact u) (by rw[hl];exact A) hk
      ·rw[hl];refine⟨by rw[qGv,g1];lia, .inr ⟨b,cap,cur,by simp,qGr _,g5,by lia,g7,g8,?_⟩⟩;rw[<-g9,List.take_take];congr 1;lia
      ·intro k y c Q hc;rw[qGo]at Q;split at Q
       ·exact g4 k y c Q (mU hc)
       ·cases Q
  ·exact l.elim
 grind
def qaw{n:Nat}{es:List D}{i:Nat}(h:∀d∈es,d.cells.length=n)(hi:i<=es.length):(bq es).take (i*n)=bq (es.take i)/\(bq es).drop (i*n)=bq (es.drop i):=by
 have b:bq es=bq (es.take i) ++bq (es.drop i):=by rw[<-sE,qGB]
 grind [ba,List.length_take]
def qav{n:Nat}{es es2:List D}{lo:Nat}(h:∀d∈es,d.cells.length=n)(h2:∀d∈es2,d.cells.length=n)(b:lo+es2.length<=es.length):
 bq (es.take lo++es2++es.drop (lo+es2.length))=setAt (bq es) (lo*n) (bq es2):=by
 unfold setAt;rw[sE,sE,ba h2,<-qHy,(qaw h (by lia)).1,(qaw h b).2]
theorem OB(p:StW E tp H w){id b el n cap lo:Nat}{es es2:List D}(F:H id=some (.row (.slice (some ⟨b,0,none⟩) es.length cap) el n es))(j:∀d∈es2,d.kn=true/\d.cells.length=n)
 {vs:List Value} (I:vs.length=es2.length*n) (s:aS (R tp (be E.O tp H w) w) vs (bq es2)) (t:∀u∈vs,u.oneCell'=true) (l:lo+es2.length<=es.length):
 ∃w',(storeCells ⟨b,lo*n,none⟩ vs 0).run P w= .ok () w'/\
  (StW E tp (aj H id (some (.row (.slice (some ⟨b,0,none⟩) es.length cap) el n (es.take lo++es2++es.drop (lo+es2.length))))) w'/\
    ∀y e,R tp (be E.O tp H w) w y e->R tp (be E.O tp (aj H id (some (.row (.slice (some ⟨b,0,none⟩) es.length cap) el n (es.take lo++es2++es.drop (lo+es2.length))))) w') w' y e):=by
 let ⟨xs,⟨g1,Y⟩,C,Q⟩:=p.sat.ok id _ F
 rcases Y with⟨h,_⟩|⟨g,S,cur,Z,g4',U,W,g7,g8,g9⟩
 grind
 ·cases Z;have hlen:(es.take lo++es2++es.drop (lo+es2.length)).length=es.length:=by grind
  have hm1:(lo+es2.length) *n<=es.length*n:=qGw n l;have hm2:es.length*n<=cap*n:=qGw n W;have hfl:=ba (es:=es) (λd hd=>(C d hd).2);have x:=ba (es:=es2) (λd hd=>(j d hd).2);have A:=run_storeCells_at P b (lo*n) el vs 0 cur w U (by lia) t;have J:=setRow_heap w b cur (cur.toList.take (lo*n) ++vs++cur.toList.drop (lo*n+vs.length)).toArray el (0,0) U;refine⟨_,A,p.own id _ (py w b _) (λq hq=>by cases hq;exact⟨_,F,rfl⟩) (λr q h1 h2=>by cases h1;cases h2;exact .inr ⟨_,F,rfl⟩) (λm r h1=>?_)⟩;cases h1;have K:xs.length=(bq es).length:=by lia
  have L:(cur.toList.take (lo*n) ++vs++cur.toList.drop (lo*n+vs.length)).take (es.length*n)=xs.take (lo*n) ++vs++xs.drop (lo*n+vs.length):=by
   apply qGN;intro k;rw[kU (by lia),qGo,kU (by simp;lia)];by_cases h1:k<es.length*n
   ·rw[if_pos h1];by_cases h2:lo*n<=k/\k<lo*n+vs.length
    ·rw[if_pos h2,if_pos h2]
    ·rw[<-g9,qGo,if_pos h1]
   ·rw[if_neg h1,if_neg (by lia)];rw[qGu (by lia)]
  have M:(xs.take (lo*n) ++vs++xs.drop (lo*n+vs.length)).length=es.length*n:=by
   simp only[qGC,qGv,qG9];lia
  have N:(cur.toList.take (lo*n) ++vs++cur.toList.drop (lo*n+vs.length)).toArray.size=cap*n:=by
   simp only[qHn,qGC,qGv,qG9,qGV];lia
  refine⟨xs.take (lo*n) ++vs++xs.drop (lo*n+vs.length),⟨by rw[hlen];exact M, .inr ⟨b,cap,_,by rw[hlen],qGr _,J,by rw[hlen];exact W,g7,N,by rw[hlen];exact L⟩⟩,λd hd=>?_,?_⟩
  ·rcases qGi.1 hd with hd|hd
   ·rcases qGi.1 hd with hd|hd
    ·exact C d (qGq hd)
    ·exact j d hd
   ·exact C d (qGO hd)
  ·rw[qav (λd hd=>(C d hd).2) (λd hd=>(j d hd).2) l];exact ug K (λk y c h1 h2=>⟨(Q k y c h1 h2).1,m _ _ (Q k y c h1 h2).2⟩) (by rw[I,x]) (λk y c h1 h2=>⟨(s k y c h1 h2).1,m _ _ (s k y c h1 h2).2⟩) (by lia)
def qhE{agg:Bool}{z:List Value}{n:Nat}(b:z.length=n)(c:(agg||decide (n=1))=true)(d:z.all (λx=>match x with| .string s=>decide (s.size<=1000000)| .bool _| .int _ _| .pointer _| .slice _ _ _| .nilFunc| .map _=>true|_=>false)=true):
 (XA agg z).kn=true/\(XA agg z).cells=z.map rk:=by
 unfold XA;cases agg with
 |true=>exact⟨rfl,rfl⟩
 | false=>
   match z,b with
   | [y],_=>
     grind [rk,D.kn,D.cells]
   | [],h=>grind
   | _::_::_,h=>grind
theorem SV{z:List Value}{n m:Nat}{b:D}(hn:0<n)(K:z.length=n)(q:b.kn=true/\b.cells=z.map rk)(r:z.all (λx=>match x with| .string s=>decide (s.size<=1000000)| .bool _| .int _ _| .pointer _| .slice _ _ _| .nilFunc| .map _=>true|_=>false)=true)(t:z.all (·.oneCell')=true){I:Nat->Prop} :
 (∀d∈List.replicate m b,d.kn=true/\d.cells.length=n)/\(Builtin.zeroCells z.toArray m).toList.length=m*n/\aS (R tp I w) (Builtin.zeroCells z.toArray m).toList (bq (List.replicate m b))/\∀u∈ (Builtin.zeroCells z.toArray m).toList,u.oneCell'=true:=by
 have h:∀d∈List.replicate m b,d.kn=true/\d.cells.length=n:=λd p=>by
  grind
 have j:∀k,k<m*n->(Builtin.zeroCells z.toArray m).toList[k]? =z[k % n]?:=λk hk=>by
  have hm:k % z.length<z.length:=qHu _ (by lia);grind [Builtin.zeroCells]
 refine⟨h,by grind [Builtin.zeroCells],λk y c F hc=>?_,λu L=>?_⟩
 ·let ⟨d,p,l,J,he⟩:=AP hn (λd p=>(h d p).2) hc
  have A:=qH8 (qF7 p);subst A;rw[q.2]at l;have C:k<m*n:=by
   grind [ba]
  rw[j k C]at F;exact lD r t (k % n) y c F l
 grind [Builtin.zeroCells]
theorem qjL{t el:TypeId}{n:Nat}{agg:Bool}{z:List Value}{c:Call}{x:Operand}{K:D->ab->Prop}(l:StW E tp H w)(ho:o.op= .call c)(hc:c.callee= .builtin .clear)(U:c.argTypes.toList=[t])(A:c.args.toList=[x])
 (ht:P.underlying t=some (.slice el)) (hs:cx P el=some n) (hz:cv P el=some z) (hn:0<n) (J:(agg||decide (n=1))=true)
 (C:R tp (be E.O tp H w) w (a.eval x) (ev σ x)) (s:bj (.clear n agg z x) o.dst σ H K):de P o a E tp H w K:=by
 let ⟨cl,⟨args⟩,⟨ats⟩⟩:=c
 subst U;subst A;subst hc;simp only[bj]at s
 let ⟨i,zv,hi,W,hzc,hsz,Y,L⟩:=eB hz
 have hni:i.size=n:=by
  grind [cx]
 have M:z.length=n:=by lia
 have N:zv.cells=z.toArray:=by grind
 have Z:=qhE M J L;have mt:R tp (be E.O tp H w) w (.tuple #[]) (.tup []):= .tup [] [] rfl (λk x c h=>by simp);generalize hq:a.eval x=q at C;have nothing:∀(ao:Option Addr) (c:Nat),q= .slice ao 0 c->K (.tup []) H->de P o a E tp H w K:=λao c u hk=>by
  refine⟨.value (.tuple #[]), .tuple #[], .tup [],H,w,?_, .inl rfl,⟨l,λ_ _ h=>h⟩,mt,hk⟩;cases ao<;>simp[execOp,ho,resolve,invoke,builtin,hq,u,Builtin.clear_,run_underlying ht]
 have same:∀(id:Nat) (r:Res),H id=some r->aj H id (some r)=H:=λid r h=>by
  grind [aj,h.symm]
 have main:∀(id b d cap lo up:Nat) (es:List D),H id=some (.row (.slice (some ⟨b,0,none⟩) es.length cap) d n es)->lo<=up->up<=es.length->∀(p:Option Addr) (cc:Nat),q= .slice p (up -lo) cc->(lo<up->p=some ⟨b,lo*n,none⟩)->
  K (.tup []) (aj H id (some (.row (.slice (some ⟨b,0,none⟩) es.length cap) d n (es.take lo++List.replicate (up -lo) (XA agg z) ++es.drop up))))->de P o a E tp H w K:=by
  intro id b d cap lo up es j hlu hue p cc u hp hk;by_cases h0:up=lo;simp_all
  ·have hlt:lo<up:=by lia
   have hpe:=hp hlt;subst hpe
   let ⟨r1,r2,r3,r4⟩:=SV (tp:=tp) (w:=w) (m:=up -lo) (I:=be E.O tp H w) hn M Z L Y
   let ⟨w',s1,s2⟩:=OB (P:=P) l (lo:=lo) j r1 (by rw[qHA];exact r2) r3 r4 (by rw[qHA];lia)
   rw[qHA,show lo+ (up -lo)=up by lia]at s2;refine⟨.value (.tuple #[]), .tuple #[], .tup [],_,w',?_, .inl rfl,s2,s2.2 _ _ mt,hk⟩;have hne:∃m,up -lo=m+1:=⟨up -lo -1,by lia⟩
   let ⟨m,hm⟩:=hne
   rw[hm]at u s1;simp[execOp,ho,resolve,invoke,builtin,hq,u,Builtin.clear_,run_underlying ht,zeroValue,typeInfo,hi,W,N,s1]
 split at s
 ·rename_i id y Q;rw[Q]at C;cases C with
  | own _ _ h1=>
    split at s
    ·rename_i x' d n' es j
     let ⟨F,rfl,hk⟩:=s
     subst F
     let ⟨xs,⟨g1,S⟩,g3,g4⟩:=l.sat.ok id _ j
     rcases S with⟨h,h0⟩|⟨g,cap,cur,h,_⟩
     ·have:es=[]:=qGk h0;subst this;refine nothing none 0 h ?_;simp[qHI,qIe]at hk;rw[same id _ j]at hk;exact hk
     ·rw[h]at j hk;exact main id g d cap 0 es.length es j (qGr _) (qGb _) (some ⟨g,0,none⟩) cap (by simpa using h) (λ_=>by simp) (by simpa using hk)
    ·exact s.elim
 ·rename_i id y n' lo up Q;rw[Q]at C;split at s
  ·rename_i x' d n'' es j;obtain⟨F,rfl,rfl,hk⟩:=s;subst F
   let ⟨xs,⟨g1,S⟩,g3,g4⟩:=l.sat.ok id _ j
   cases C with
   | subnil=>
     rcases S with⟨_,h0⟩|⟨g,cap,cur,h,_⟩
     ·have:es=[]:=qGk h0;subst this;refine nothing none 0 rfl ?_;simp[qHN,qIe,qH5,qHT,qHg]at hk;rw[same id _ j]at hk;exact hk
     ·cases h
   | sub _ b len cap _ _ _ p h1 h2 h3 hm hp=>
     rcases S with⟨h,_⟩|⟨g,cap',cur,h,_⟩
     ·cases h
     ·cases h;exact main id b d cap lo up es j h1 h2 p _ rfl (λh=>hp (.inl (by lia))) hk
  ·exact s.elim
 ·rename_i Q;rw[Q]at C;exact nothing none 0 C.inv_v s
 grind
theorem qnL{t el:TypeId}{n:Nat}{c:Call}{x y:Operand}{K:D->ab->Prop}(s:StW E tp H w)(ho:o.op= .call c)(hc:c.callee= .builtin .copy)(hat:c.argTypes.toList=[t,t])(L:c.args.toList=[x,y])
 (ht:P.underlying t=some (.slice el)) (hs:cx P el=some n) (hn:0<n)
 (S:R tp (be E.O tp H w) w (a.eval x) (ev σ x)) (Q:R tp (be E.O tp H w) w (a.eval y) (ev σ y)) (C:bj (.copy n x y) o.dst σ H K):de P o a E tp H w K:=by
 let ⟨cl,⟨args⟩,⟨ats⟩⟩:=c
 subst hat;subst L;subst hc;simp only[bj]at C
 let ⟨es2,C,U,ao,cc,news,W,hao,hnl,M,Y,F⟩:=YZ s Q hn C
 generalize hq:a.eval x=q at S;have same:∀(id:Nat) (r:Res),H id=some r->aj H id (some r)=H:=λid r h=>by
  grind [aj,h.symm]
 have nothing:∀(po:Option Addr) (dl c:Nat),q= .slice po dl c->min es2.length dl=0->K (.v (.int .i64 (0:Nat))) H->de P o a E tp H w K:=λpo dl c I h0 hk=>by
  refine⟨.value (.int .i64 (0:Nat)), .int .i64 (0:Nat),_,H,w,?_, .inl rfl,⟨s,λ_ _ h=>h⟩, .int _ _,hk⟩;have h0':Nat.min es2.length dl=0:=h0;cases po<;>cases ao<;>simp[execOp,ho,resolve,invoke,builtin,hq,I,W,Builtin.copy_,run_underlying ht,Builtin.lenOf,aZ hs,h0',Builtin.firstCells,loadCells,loadCellsFrom,storeCells,goInt]
 have main:∀(id b l cap lo up:Nat) (es:List D),H id=some (.row (.slice (some ⟨b,0,none⟩) es.length cap) l n es)->lo<=up->up<=es.length->∀(p:Option Addr) (c:Nat),q= .slice p (up -lo) c->(lo<up->p=some ⟨b,lo*n,none⟩)->
  K (.v (.int .i64 (min es2.length (up -lo):Nat))) (aj H id (some (.row (.slice (some ⟨b,0,none⟩) es.length cap) l n (es.take lo++es2.take (up -lo) ++es.drop (lo+min es2.length (up -lo))))))->de P o a E tp H w K:=by
  intro id b l cap lo up es A hlu hue p c I hp hk;by_cases h0:min es2.length (up -lo)=0
  ·refine nothing p _ c I h0 ?_;have ht0:es2.take (up -lo)=[]:=by
    apply qGk;rw[qGv];lia
   rw[h0,ht0,qHg,qHq,qGB,same id _ A]at hk;exact hk
  ·have hlt:lo<up:=by lia
   have hpe:=hp hlt;subst hpe;have J:(es2.take (up -lo)).length=min es2.length (up -lo):=by rw[qGv];lia
   have hmle:min es2.length (up -lo) *n<=es2.length*n:=qGw n (Nat.min_le_left _ _);have Z:(news.take (min es2.length (up -lo) *n)).length=(es2.take (up -lo)).length*n:=by rw[J,qGv,hnl];lia
   let ⟨w',s1,s2⟩:=OB (P:=P) s (lo:=lo) (es2:=es2.take (up -lo)) (vs:=news.take (min es2.length (up -lo) *n)) A (λd hd=>U d (qGq hd)) Z (λk y c Q hc=>by
    rw[qGo]at Q;split at Q
    ·exact F k y c Q (mU hc)
    ·cases Q) (λu hu=>Y u (qGq hu)) (by rw[J];lia)
   rw[J]at s2;refine⟨.value (.int .i64 (min es2.length (up -lo):Nat)), .int .i64 (min es2.length (up -lo):Nat),_,_,w',?_, .inl rfl,s2, .int _ _,hk⟩;have hao':∃ad,ao=some ad:=by
    cases ao with
    |none=>have:=hao rfl;lia
    |some ad=>exact⟨ad,rfl⟩
   obtain⟨ad,rfl⟩:=hao';have hld:=run_loadCells_list (P:=P) w ad (news.take (min es2.length (up -lo) *n)) (λj v hj=>by
    rw[qGo]at hj;split at hj
    ·exact M ad rfl j v hj
    ·cases hj)
   have hnn:(news.take (min es2.length (up -lo) *n)).length=Nat.min es2.length (up -lo) *n:=by rw[Z,J]
   rw[hnn]at hld;have hmn:Nat.min es2.length (up -lo)=min es2.length (up -lo):=rfl;simp[execOp,ho,resolve,invoke,builtin,hq,I,W,Builtin.copy_,run_underlying ht,Builtin.lenOf,aZ hs,Builtin.firstCells,hld,s1,goInt,hmn]
 split at C
 ·rename_i id y' e1;rw[e1]at S;cases S with
  | own _ _ h1=>
    split at C
    ·rename_i x' l n' es A
     let ⟨N,rfl,hk⟩:=C
     subst N
     let ⟨xs,⟨g1,g2⟩,g3,g4⟩:=s.sat.ok id _ A
     rcases g2 with⟨h,h0⟩|⟨g,cap,cur,h,_⟩
     ·have:es=[]:=qGk h0;subst this;refine nothing none 0 0 h (by simp) ?_;simp[qHI,Nat.min_zero,qH3,qHT,qHg]at hk;rw[same id _ A]at hk;exact hk
     ·rw[h]at A hk;refine main id g l cap 0 es.length es A (qGr _) (qGb _) (some ⟨g,0,none⟩) cap (by simpa using h) (λ_=>by simp) ?_;have:es.drop es2.length=es.drop (min es2.length es.length):=by
       by_cases hle:es2.length<=es.length
       ·rw[Nat.min_eq_left hle]
       ·rw[Nat.min_eq_right (by lia),qHz (by lia),qHz (by lia)]
      rw[this]at hk;simpa using hk
    ·exact C.elim
 ·rename_i id y' n' lo up e1;rw[e1]at S;split at C
  ·rename_i x' l n'' es A;obtain⟨N,rfl,rfl,hk⟩:=C;subst N
   let ⟨xs,⟨g1,g2⟩,g3,g4⟩:=s.sat.ok id _ A
   cases S with
   | subnil=>
     rcases g2 with⟨_,h0⟩|⟨g,cap,cur,h,_⟩
     ·have:es=[]:=qGk h0;subst this;refine nothing none 0 0 rfl (by simp) ?_;simp[qHN,Nat.min_zero,qH3,qH5,qHT,qHg]at hk;rw[same id _ A]at hk;exact hk
     ·cases h
   | sub _ b len cap _ _ _ p h1 h2 h3 hm hp=>
     rcases g2 with⟨h,_⟩|⟨g,cap',cur,h,_⟩
     ·cases h
     ·cases h;exact main id b l cap lo up es A h1 h2 p _ rfl (λh=>hp (.inl (by lia))) hk
  ·exact C.elim
 grind
theorem qjM{t u el:TypeId}{n:Nat}{agg:Bool}{kn:IntKind}{z:List Value}{c:Call}{x y:Operand}{K:D->ab->Prop}(l:StW E tp H w)(ho:o.op= .call c)(hc:c.callee= .builtin .append)(J:c.argTypes.toList=[t,u])(d:c.args.toList=[x,y])
 (ht:P.underlying t=some (.slice el)) (hu:P.underlying u=some (.int kn)) (hs:cx P el=some n) (hz:cv P el=some z) (hn:0<n) (p:(agg||decide (n=1))=true)
 (hx:R tp (be E.O tp H w) w (a.eval x) (ev σ x)) (hy:R tp (be E.O tp H w) w (a.eval y) (ev σ y)) (F:bj (.appmk el n (P.bytesOf el) agg z x y) o.dst σ H K):de P o a E tp H w K:=by
 let ⟨cl,⟨args⟩,⟨ats⟩⟩:=c
 subst J;subst d;subst hc;simp[bj]at F;split at F
 ·rename_i e1;rw[e1]at hx;have L:=hx.inv_v;split at F
  ·rename_i t' kc c hdst e2
   let ⟨h0,hb,h63,hk⟩:=F
   have M:a.eval y= .int kc c:=by
    rw[DU e2]at hy;exact hy.inv_v
   let ⟨i,zv,hi,N,hzc,hsz,Q,q⟩:=eB hz
   have hni:i.size=n:=by
    grind [StW,cv,cx]
   have S:i.bytes=P.bytesOf el:=by grind [StW,cx,cv,Program.bytesOf]
   have j:z.length=n:=by lia
   have s:zv.cells=z.toArray:=by grind
   have U:=qhE j p q;obtain⟨m,rfl⟩:∃m:Nat,c=m:=⟨c.toNat,by lia⟩
   rw[qHQ]at hk;by_cases W:m=0
   ·subst W;refine⟨.value (.slice none 0 0), .slice none 0 0, .own t' (.slice none 0 0),_,w,?_, .inl rfl,l.own t' (some (.row (.slice none 0 0) el n (List.replicate 0 (XA agg z)))) (gm w none) (λb hb=>by grind) (λr b h1 h2=>by grind [Res,StW,cx,cv,Res.blk,Value.ownBlock]) (λm r h1=>?_), .own _ _ rfl,hk _⟩
    ·simp[execOp,ho,resolve,invoke,builtin,L,M,Builtin.append_,run_underlying ht,run_underlying hu,sizeOf,typeInfo,hi,asInt,asIntOf,IntKind.wrap_i64]
    ·cases h1;exact⟨[],qHo _ _ _ _,by simp,λk y c h=>by grind⟩
   ·have hb':m*i.bytes<=140737488355328:=by
     rw[S];have:((m*P.bytesOf el:Nat):Int)<=140737488355328:=by push_cast;exact hb
     lia
    have A:=Lib.run_append_nil_zeros (P:=P) w t u o.type el i zv kc kn ht hu hi N m (by lia) (by lia) (by lia) (by lia);rw[s]at A
    let ⟨r1,r2,r3,r4⟩:=SV (tp:=tp) (w:=w) (m:=m) (I:=be E.O tp H w) hn j U q Q
    have Y:=grownCap_ge w m 0 el;have Z:grownCap w m 0 el<=maxLen:=grownCap_le_maxLen w m 0 el (by simp[maxLen];lia);have C:(w.drew.alloc (.cells (Builtin.zeroCells z.toArray m++Builtin.zeroCells z.toArray (grownCap w m 0 el -m)) el)).ownsRow 0 el n (.slice (some ⟨w.heap.size,0,none⟩) m (grownCap w m 0 el)) m (Builtin.zeroCells z.toArray m).toList:=by
     refine⟨r2, .inr ⟨w.heap.size,_,_,rfl,qGr _,heap_alloc_new w.drew _,Y,Z,?_,?_⟩⟩
     ·simp[qIl,size_zeroCells,qHn,j,<-qHy];congr 1;lia
     ·rw[Array.toList_append,<-r2];exact List.take_left
    refine⟨.value (.slice (some ⟨w.heap.size,0,none⟩) m (grownCap w m 0 el)), .slice (some ⟨w.heap.size,0,none⟩) m (grownCap w m 0 el), .own t' _,_,w.drew.alloc (.cells (Builtin.zeroCells z.toArray m++Builtin.zeroCells z.toArray (grownCap w m 0 el -m)) el),?_, .inl rfl,l.own t' (some (.row (.slice (some ⟨w.heap.size,0,none⟩) m (grownCap w m 0 el)) el n (List.replicate m (XA agg z)))) (row:=none) ⟨⟨rfl,rfl,rfl,by simp,λk hk _=>qIa w.drew _ k hk⟩,qHp _⟩ (λb hb=>by cases hb) (λr b h1 h2=>?_) (λmv r h1=>?_), .own _ _ rfl,hk _⟩;simp_all [execOp,resolve,invoke,builtin]
    ·cases h1;simp[Res.blk,Value.ownBlock]at h2;exact .inl (by lia)
    ·cases h1;refine⟨_,by rw[qHA];exact C,r1,λk y c h1 h2=>⟨(r3 k y c h1 h2).1,mv _ _ (r3 k y c h1 h2).2⟩⟩
  grind
 grind
def qgu{t:Nat}{ty:TypeId}{x:Operand}{s:ByteArray}{K:D->ab->Prop}(d:StW E tp H w)(ho:o.op= .range ty x)(h:P.underlying ty=some .string)(j:a.eval x= .string s)
 (k:∀b,K (.bptr t b 0) (aj H t (some (.iter b s 0)))):de P o a E tp H w K:=by
 refine⟨_, .pointer (some ⟨w.heap.size,0,none⟩), .bptr t w.heap.size 0,_,w.alloc (.stringIter s 0),?_, .inl rfl,pi (r':= .iter w.heap.size s 0) d (λb hb=>by cases hb;rfl) (λm=>?_), .bptr _ _ _,k _⟩
 ·have c:=run_range_string (P:=P) w ty s h;simp[execOp,ho,j,c,qGy];rfl
 ·exact heap_alloc_new _ _
def Wv(w:World)(b:Nat)(s:ByteArray)(p:Nat):GrB w (w.iterAt b s p) (some b):=by
 refine⟨⟨rfl,rfl,rfl,by simp[Lib.iterAt_size],λk _ hk=>Lib.iterAt_other w b k s p (λe=>hk (by rw[e]))⟩,qGb _⟩
theorem qjK{x:Operand}{K:D->ab->Prop}(d:StW E tp H w)(ho:o.op= .next x true)(p:R tp (be E.O tp H w) w (a.eval x) (ev σ x))(j:bj (.snext x) o.dst σ H K):de P o a E tp H w K:=by
 simp only[bj]at j;generalize C:a.eval x=q at p;split at j
 ·rename_i id b off u;rw[u]at p
  let ⟨rfl,j⟩:=j
  cases p;split at j
  ·rename_i b' s pos t
   let ⟨rfl,h1,h2⟩:=j
   have hb:w.heap[b']? =some (.stringIter s pos):=d.sat.ok id _ t;by_cases hp:pos<s.size
   ·have l:=Lib.run_next_any_at (P:=P) w b' s pos o.type hb hp;have A:∀(I:Nat->Prop) (w':World),R tp I w' (.tuple #[.bool true, .int .i64 pos, .int .i32 (Utf8.decode s pos).1]) (.tup [.v (.bool true), .v (.int .i64 pos), .v (.int .i32 (Utf8.decode s pos).1)]):=λI w'=>
     .tup [.bool true, .int .i64 pos, .int .i32 (Utf8.decode s pos).1] _ rfl λk y c h1 h2=>by
      match k with
      | 0=>simp at h1 h2;subst h1;subst h2;exact .bool _
      | 1=>simp at h1 h2;subst h1;subst h2;exact .int _ _
      | 2=>simp at h1 h2;subst h1;subst h2;exact .int _ _
      |k+3=>grind
    refine⟨_,_,_,_,w.iterAt b' s (pos+ (Utf8.decode s pos).2),by grind [StW,D,ev,execOp,Sem.run_bind,Result.andThen_ok,Sem.run_pure], .inl rfl,d.own id (some (.iter b' s (pos+ (Utf8.decode s pos).2))) (Wv w b' s _) (λb hb=>by cases hb;exact⟨_,t,rfl⟩) (λr b h1 h2=>by cases h1;cases h2;exact .inr ⟨_,t,rfl⟩) (λm r h1=>?_),A _ _,h1 hp⟩;cases h1;exact Lib.iterAt_heap w b' s pos _ hb
   ·have l:=Lib.run_next_end_at (P:=P) w b' s pos o.type hb hp;refine⟨_,_,_,_,w,by grind [execOp,Sem.run_bind,Result.andThen_ok,Sem.run_pure], .inl rfl,⟨d,λy e h=>h⟩, .tup [.bool false] [.v (.bool false)] rfl (λk y c h1 h2=>by
     match k with
     | 0=>simp at h1 h2;subst h1;subst h2;exact .bool _
     |k+1=>grind),h2 hp⟩
  grind
 grind
theorem qao{t u el:TypeId}{x:Operand}{K:D->Prop}(b:StW E tp H w)(ho:o.op= .convert t u x)(h1:P.underlying t=some .string)(h2:P.underlying u=some (.slice el))(h3:P.underlying el=some (.int .u8))
 (L:R tp (be E.O tp H w) w (a.eval x) (ev σ x)) {Hr:ab} (p:ak (.sbytes x) σ Hr K):GoodN P o a E tp H w K:=by
 simp[ak]at p;split at p
 ·rename_i s Q;rw[Q]at L
  let ⟨S,U⟩:=L.inv_str
  have j:=run_bytes_of_string (P:=P) w t u el s h1 h2 h3;generalize W:bytesRow s (grownCap w s.size 0 el)=C at j;generalize M:grownCap w s.size 0 el=cap at j W;have y:cap<=maxLen:=by grind [StW,grownCap_le_maxLen]
  have Y:s.size<=cap:=by grind [StW,grownCap_ge]
  have A:GrB w (w.drew.alloc (.cells C el (C.size,C.size+1))) none:=by
   have:=qH1 w.drew (.cells C el (C.size,C.size+1)) none;exact⟨⟨this.os,this.tape,this.output,this.size,this.block⟩,qHp _⟩
  have hlen:(s.data.toList.map λc=>D.v (.int .u8 c.toNat)).length=s.size:=by
   simp
  have F:bq (s.data.toList.map λc=>D.v (.int .u8 c.toNat))=s.data.toList.map λc=>D.v (.int .u8 c.toNat):=by
   unfold bq;generalize s.data.toList=l
   induction l<;>simp_all [D.cells]
  refine⟨.slice (some ⟨w.heap.size,0,none⟩) s.size cap,_,_,by grind [StW,execOp,Sem.run_bind,Result.andThen_ok,Sem.run_pure],A,λN m=>?_,p⟩;have I:(w.drew.alloc (.cells C el (C.size,C.size+1))).heap[w.heap.size]? =some (.cells C el (C.size,C.size+1)):=heap_alloc_new _ _;have key:∀(k:Nat) (c:D),(bq (s.data.toList.map λc=>D.v (.int .u8 c.toNat)))[k]? =some c->∃q:UInt8,c= .v (.int .u8 q.toNat)/\C[k]? =some (.int .u8 q.toNat):=by
   intro k c hk;rw[F,qGn]at hk;obtain⟨q,hq,rfl⟩:=qGe.1 hk;grind [StW,bytesRow]
  have J:R tp (be E.O tp H (w.drew.alloc (.cells C el (C.size,C.size+1)))) (w.drew.alloc (.cells C el (C.size,C.size+1))) (.slice (some ⟨w.heap.size,0,none⟩) (s.data.toList.map λc=>D.v (.int .u8 c.toNat)).length cap) (.list 1 (s.data.toList.map λc=> .v (.int .u8 c.toNat))):=by
   refine .list w.heap.size 0 cap 1 _ (λk=>C.getD k undef) ⟨by simp,λh=>?_,λh=>?_,λ⟨i,r,h1,h2⟩=>?_⟩ (by lia) y (λh=>absurd rfl h) (λd Z=>?_) (λk c hk=>?_) (λk c hk=>?_) (λk c hk=>?_)
   ·have:=b.hO _ h;grind [b.step.size]
   ·have:=b.tpl.1 _ h;lia
   ·have:=(b.sat.ok i r h1).lt h2;lia
   ·obtain⟨c,_,rfl⟩:=qGd.1 Z;exact⟨rfl,rfl⟩
   all_goals
    let ⟨q,e2,e3⟩:=key k c hk
    have hg:C.getD k undef= .int .u8 q.toNat:=by simp_all
    try dsimp only
    rw[hg]
   ·rw[qGS,cell_of_row _ _ k C el _ I];lia
   ·rfl
   ·rw[e2];exact .int _ _
  grind
 grind
def ST(s:ByteArray):∀(bound i:Nat) (b:Array Value),(∀x∈b.toList,∃n,x= .int .i32 n)->∀x∈ (Conv.runesFrom s bound i b).toList,∃n,x= .int .i32 n
 | 0,_,b,h=>by grind [Conv.runesFrom]
 | bound+1,i,b,h=>by
   unfold Conv.runesFrom;split
   ·refine ST s bound _ _ λx c=>?_
    grind
   omega
theorem qan{t u el:TypeId}{x:Operand}{K:D->Prop}(j:StW E tp H w)(ho:o.op= .convert t u x)(h1:P.underlying t=some .string)(h2:P.underlying u=some (.slice el))(h3:P.underlying el=some (.int .i32))
 (S:R tp (be E.O tp H w) w (a.eval x) (ev σ x)) {Hr:ab} (A:ak (.srunes x) σ Hr K):GoodN P o a E tp H w K:=by
 simp[ak]at A;split at A
 ·rename_i s Y;rw[Y]at S
  let ⟨Z,hsz⟩:=S.inv_str
  have F:(Conv.runesFrom s s.size 0 #[]).size<=s.size:=by have:=size_runesFrom s s.size 0 #[];grind
  have I:=A.1;replace A:=A.2;have p:∀x∈ (Conv.runesFrom s s.size 0 #[]).toList,∃n,x= .int .i32 n:=ST s _ _ _ (λx h=>by grind);have b:=run_runes_of_string (P:=P) w t u el s h1 h2 h3 (qGA (qGA F I) (by decide));generalize hQ:Conv.runesFrom s s.size 0 #[]=q at b F p A;generalize U:grownCap w q.size 0 el=cap at b;have J:cap<=maxLen:=by grind [StW,grownCap_le_maxLen]
  have hcg:q.size<=cap:=by grind [StW,grownCap_ge]
  generalize hC:q++Array.replicate (cap -q.size) (.int .i32 0)=C at b;have L:GrB w (w.drew.alloc (.cells C el)) none:=by
   have:=qH1 w.drew (.cells C el) none;exact⟨⟨this.os,this.tape,this.output,this.size,this.block⟩,qHp _⟩
  have hlen:(q.toList.map D.v).length=q.size:=by
   simp
  have M:bq (q.toList.map D.v)=q.toList.map D.v:=by
   unfold bq;generalize q.toList=l
   induction l<;>simp_all [D.cells]
  refine⟨.slice (some ⟨w.heap.size,0,none⟩) q.size cap,_,_,by grind [StW,execOp,Sem.run_bind,Result.andThen_ok,Sem.run_pure],L,λW m=>?_,A⟩;have N:(w.drew.alloc (.cells C el)).heap[w.heap.size]? =some (.cells C el (0,0)):=heap_alloc_new _ _;have key:∀(k:Nat) (c:D),(bq (q.toList.map D.v))[k]? =some c->∃n:Int,c= .v (.int .i32 n)/\C[k]? =some (.int .i32 n):=by
   intro k c hk;rw[M,qGn]at hk;obtain⟨y,hy,rfl⟩:=qGe.1 hk;obtain⟨n,rfl⟩:=p y (qF7 hy);grind
  have Q:R tp (be E.O tp H (w.drew.alloc (.cells C el))) (w.drew.alloc (.cells C el)) (.slice (some ⟨w.heap.size,0,none⟩) (q.toList.map D.v).length cap) (.list 1 (q.toList.map D.v)):=by
   refine .list w.heap.size 0 cap 1 _ (λk=>C.getD k undef) ⟨by simp,λh=>?_,λh=>?_,λ⟨i,r,h1,h2⟩=>?_⟩ (by lia) J (λh=>absurd rfl h) (λd hd=>?_) (λk c hk=>?_) (λk c hk=>?_) (λk c hk=>?_)
   ·have:=j.hO _ h;grind [j.step.size]
   ·have:=j.tpl.1 _ h;lia
   ·have:=(j.sat.ok i r h1).lt h2;lia
   ·obtain⟨c,_,rfl⟩:=qGd.1 hd;exact⟨rfl,rfl⟩
   all_goals
    let ⟨q,e2,e3⟩:=key k c hk
    have hg:C.getD k undef= .int .i32 q:=by simp_all
    try dsimp only
    rw[hg]
   ·rw[qGS,cell_of_row _ _ k C el _ N];lia
   ·rfl
   ·rw[e2];exact .int _ _
  grind
 grind
end
end Go.Gv
