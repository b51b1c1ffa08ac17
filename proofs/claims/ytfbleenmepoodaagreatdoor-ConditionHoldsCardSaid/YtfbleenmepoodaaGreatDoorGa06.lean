/- A part of the framework and of the walks: S6. -/
import Derived.Lib.AppendZeros
import Derived.Lib.OthersKept
import Derived.Laws.IdiomStrings
import Derived.Test.YtfbleenmepoodaaGreatDoorGa05
set_option linter.unusedSimpArgs false
set_option linter.unusedVariables false
set_option linter.unusedSectionVars false
set_option linter.defProp false
namespace Go.Gv
def cq(P:Program)(o:Oper)(a:Act)(E:sw)(tp:Nat->Prop)(H:aa)(w:World)(K:D->aa->Prop):Prop:=
 ∃nx x d H' w',(execOp a.eval o).run P w= .ok nx w'/\(nx= .value x\/(nx= .skip/\x=Go.undef))/\
  (StW E tp H' w'/\∀y e,R tp (aI E.O tp H w) w y e->R tp (aI E.O tp H' w') w' y e)/\R tp (aI E.O tp H' w') w' x d/\K d H'
section
variable {P:Program}{o:Oper}{a:Act}{E:sw}{tp:Nat->Prop}{H:aa}{w:World}{σ:Sg}
def GoodN.og{Kd:D->Prop}{K:D->aa->Prop}(hst:StW E tp H w)(h:GoodN P o a E tp H w Kd)(hk:∀d,Kd d->K d H):cq P o a E tp H w K:=by
 obtain⟨x,d,w',h1,h2,h3,h4⟩:=h;have hm:=hst.grow h2;exact⟨_,x,d,H,w',h1, .inl rfl,hm,h3 hm.1 hm.2,hk d h4⟩
def lc{t:Nat}{ob:Obj}{r':Res}(hst:StW E tp H w)(hb:∀b,r'.blk=some b->b=w.heap.size)
 (hok:(∀x d,R tp (aI E.O tp H w) w x d->R tp (aI E.O tp (aj H t (some r')) (w.alloc ob)) (w.alloc ob) x d)->ResOk (R tp (aI E.O tp (aj H t (some r')) (w.alloc ob)) (w.alloc ob)) (w.alloc ob) r'):
 StW E tp (aj H t (some r')) (w.alloc ob)/\∀x d,R tp (aI E.O tp H w) w x d->R tp (aI E.O tp (aj H t (some r')) (w.alloc ob)) (w.alloc ob) x d:=
 hst.own t (some r') (GrB.alloc w ob none) (λb hb=>by cases hb) (λr b h1 h2=>by cases h1;exact .inl (by rw[hb b h2];exact qjL _)) (λm r h1=>by cases h1;exact hok m)
def Q8{el t:Nat}{z:List Value}{K:D->aa->Prop}(hst:StW E tp H w)(ho:o.op= .alloc el)(hz:dt P el=some z)(hv:∀b,K (.bptr t b 0) (aj H t (some (.box b (z.map lL))))):cq P o a E tp H w K:=by
 obtain⟨i,zv,hi,hzv,hzc,hsz,hz1,hz2⟩:=cN hz;refine⟨_, .pointer (some ⟨w.heap.size,0,none⟩), .bptr t w.heap.size 0,_,w.alloc (.cells zv.cells el),?_, .inl rfl,lc (r':= .box w.heap.size (z.map lL)) hst (λb hb=>by cases hb;rfl) (λm=>?_), .bptr _ _ _,hv _⟩
 ·simp[execOp,ho,Instr.alloc,zeroValue,typeInfo,hi,hzv,newVar,newRow]
 ·exact⟨zv.cells,el,heap_alloc_new _ _,by rw[<-qjT,hzc];simp,by rw[hzc];exact gV hz2 hz1⟩
def Xk{el t:Nat}{x:Operand}{K:D->aa->Prop}(hst:StW E tp H w)(ho:o.op= .box el x)(hx:R tp (aI E.O tp H w) w (a.eval x) (ev σ x))(hkn:(ev σ x).kn=true)(hv:∀b,K (.bptr t b 0) (aj H t (some (.box b (ev σ x).cells)))):cq P o a E tp H w K:=by
 refine⟨_, .pointer (some ⟨w.heap.size,0,none⟩), .bptr t w.heap.size 0,_,w.alloc (.cells (a.eval x).cells el),?_, .inl rfl,lc (r':= .box w.heap.size (ev σ x).cells) hst (λb hb=>by cases hb;rfl) (λm=>?_), .bptr _ _ _,hv _⟩
 ·simp[execOp,ho,Instr.box,newVar,newRow]
 ·obtain⟨c1,c2⟩:=(m _ _ hx).cells hkn;exact⟨(a.eval x).cells,el,heap_alloc_new _ _,by rw[<-c1];simp,c2⟩
def Xh{el t:Nat}{x:Operand}{K:D->aa->Prop}(hst:StW E tp H w)(ho:o.op= .box el x)(hx:R tp (aI E.O tp H w) w (a.eval x) (ev σ x))(hkn:(ev σ x).kn=true)(hv:∀b,K (.bptr t b 0) (aj H t (some (.tbox el b (ev σ x).cells)))):cq P o a E tp H w K:=by
 refine⟨_, .pointer (some ⟨w.heap.size,0,none⟩), .bptr t w.heap.size 0,_,w.alloc (.cells (a.eval x).cells el),?_, .inl rfl,lc (r':= .tbox el w.heap.size (ev σ x).cells) hst (λb hb=>by cases hb;rfl) (λm=>?_), .bptr _ _ _,hv _⟩
 ·simp[execOp,ho,Instr.box,newVar,newRow]
 ·obtain⟨c1,c2⟩:=(m _ _ hx).cells hkn;exact⟨(a.eval x).cells,heap_alloc_new _ _,by rw[<-c1];simp,c2⟩
theorem OL{el n t:Nat}{ty:TypeId}{parts:Array (Nat×Operand)}{z:List Value}{K:D->aa->Prop}(hst:StW E tp H w)(ho:o.op= .buildSlice ty 0 parts)(ht:P.underlying ty=some (.slice el))(hs:cj P el=some n)(hz:dt P el=some z)(hps:pX parts 0=some [])
 (hv:∀x,K (.own t x) (aj H t (some (.row x el n [])))):cq P o a E tp H w K:=by
 have hp:parts= #[]:=by
  unfold pX at hps;split at hps
  ·rename_i h;obtain⟨l⟩:=parts;simp at h;simp[h]
  ·cases hps
 obtain⟨i,zv,hi,hzv,hzc,hsz,hz1,hz2⟩:=cN hz;have hown:∀ (w':World) (b:Nat),w'.heap[b]? =some (.cells #[] el (0,0))->w'.ownsRow 0 el n (.slice (some ⟨b,0,none⟩) 0 0) 0 []:=λw' b hb=>
  ⟨by simp, .inr ⟨b,0, #[],rfl,qj5 _,hb,qjL _,qj5 _,by simp,by simp⟩⟩
 refine⟨_, .slice (some ⟨w.heap.size,0,none⟩) 0 0, .own t (.slice (some ⟨w.heap.size,0,none⟩) 0 0),_,w.alloc (.cells #[] el),?_, .inl rfl,lc (r':= .row (.slice (some ⟨w.heap.size,0,none⟩) 0 0) el n []) hst (λb hb=>by cases hb;rfl) (λm=>?_), .own _ _ rfl,hv _⟩
 ·simp[execOp,ho,hp,Instr.buildSlice,run_underlying ht,aC hs,Instr.fill,newRow,Array.range_zero']
 ·exact⟨[],hown _ _ (heap_alloc_new _ _),by simp,λk y c h=>by simp at h⟩
theorem OM{ty el:TypeId}{n len t:Nat}{parts:Array (Nat×Operand)}{ps:List Operand}{z0:List Value}{K:D->aa->Prop}(hst:StW E tp H w)(ho:o.op= .buildSlice ty len parts)(ht:P.underlying ty=some (.slice el))(hs:cj P el=some n)
 (hz:dt P el=some z0) (hps:pX parts len=some ps) (hlim:len*n<=2^24) (hn:0 < n) (hlen0:len≠0) (hr:∀x∈ps,R tp (aI E.O tp H w) w (a.eval x) (ev σ x)) (hpv:fW n (ps.map (ev σ)))
 (hv:∀x,K (.own t x) (aj H t (some (.row x el n (ps.map (ev σ)))))):cq P o a E tp H w K:=by
 unfold pX at hps;split at hps
 ·rename_i hidx;cases hps;have hlen:parts.toList.length=len:=by
   have:=congrArg List.length hidx;simpa using this
  obtain⟨i,zv,hi,hzv,hzc,hsz,hz1,hz2⟩:=cN hz;have hall:=rc hpv;have hvs:∀v∈ (parts.toList.map (·.2)).map a.eval,v.cells.size=n:=by
   intro v hv';obtain⟨x,hx,rfl⟩:=qjN.1 hv';have h1:=hall (ev σ x) (qjN.2 ⟨x,hx,rfl⟩);have:=((hr x hx).cells h1.1).1;rw[<-h1.2,<-this];simp
  have hz0:z0.length=n:=by
   unfold cj at hs;rw[hi]at hs;simp at hs;omega
  have hzv0:¬ (len*n=0):=by
   intro h;rcases Nat.mul_eq_zero.1 h with h|h <;> omega
  obtain⟨cells',r1,r2,r3,r4⟩:=Dq (n:=n) ((parts.toList.map (·.2)).map a.eval) 0 ((Array.range (len*n)).map (zv.cells[· % zv.cells.size]!)) hvs (by simp[hlen]);have hparts:(List.range' 0 ((parts.toList.map (·.2)).map a.eval).length).zip ((parts.toList.map (·.2)).map a.eval)=parts.toList.map λp=>(p.1,a.eval p.2):=by
   have e1:List.range' 0 ((parts.toList.map (·.2)).map a.eval).length=parts.toList.map (·.1):=by
    rw[hidx,qll];simp[hlen]
   rw[e1,List.map_map,List.zip_map', ];rfl
  rw[hparts]at r1;have hrun:(Instr.buildSlice ty len (parts.map λ(i,x)=>(i,a.eval x))).run P w= .ok (.slice (some ⟨w.heap.size,0,none⟩) len len) (w.alloc (.cells cells' el)):=by
   have hl:¬ (16777216 < len*n):=by omega
   have r1':Instr.fill (λi=>some (i*n,n)) ((Array.range (len*n)).map (zv.cells[· % zv.cells.size]!)) (parts.toList.map λp=>(p.1,a.eval p.2))=some cells':=r1;simp[Instr.buildSlice,run_underlying ht,aC hs,hl,hzv0,zeroValue,typeInfo,hi,hzv,r1',newRow]
  have hsz':cells'.size=len*n:=by rw[r2];simp
  have hnn:∀d∈ (parts.toList.map (·.2)).map (ev σ),d.kn=true/\d.cells.length=n:=hall;have hlen2:((parts.toList.map (·.2)).map (ev σ)).length=len:=by simp[hlen]
  refine⟨_, .slice (some ⟨w.heap.size,0,none⟩) len len, .own t (.slice (some ⟨w.heap.size,0,none⟩) len len),_,w.alloc (.cells cells' el),by simp[execOp,ho,hrun], .inl rfl,
   lc (r':= .row (.slice (some ⟨w.heap.size,0,none⟩) len len) el n ((parts.toList.map (·.2)).map (ev σ))) hst (λb hb=>by cases hb;rfl) (λm=>?_), .own _ _ rfl,hv _⟩
  refine⟨cells'.toList,⟨?_, .inr ⟨w.heap.size,len,cells',by rw[hlen2],qj5 _,heap_alloc_new _ _,by rw[hlen2];exact qjL _,by have:len<=len*n:=qlA _ hn;simp only[maxLen];omega,hsz',?_⟩⟩,hnn,?_⟩
  ·rw[hlen2];simpa using hsz'
  ·rw[hlen2,<-hsz',qk2 (by simp)]
  ·intro k y c hy hk;obtain⟨d,hd,hdc,hmod,he⟩:=ru hn (λd hd=>(hnn d hd).2) hk;rw[qjU]at hd;obtain⟨x,hx,rfl⟩:=ay hd;have hxm:x∈parts.toList.map (·.2):=qjD hx;have hRx:=m _ _ (hr x hxm);have hkx:=hnn (ev σ x) (qjN.2 ⟨x,hxm,rfl⟩);obtain⟨c1,c2⟩:=hRx.cells hkx.1;have hvx:((parts.toList.map (·.2)).map a.eval)[k/n]? =some (a.eval x):=by rw[qjU,hx];rfl
   have:=r4 (k/n) (k % n) _ hvx hmod;rw[qki,<-he]at this;have hy':cells'[k]? =some y:=by simpa using hy
   rw[hy']at this;exact c2 (k % n) y c (by simpa using this.symm) hdc
 ·cases hps
def Ez{z:List Value}(hz:0 < z.length)(N k:Nat)(hk:k < N):(madeCells z.toArray N)[k]? =z[k % z.length]?:=by
 have hm:k % z.length < z.length:=qk7 _ hz;simp[madeCells,hk,hm]
theorem LV{el n t:Nat}{ty:TypeId}{agg:Bool}{z:List Value}{lo co:Operand}{kl kc:IntKind}{l c:Int}{K:D->aa->Prop}(hst:StW E tp H w)(ho:o.op= .makeSlice ty lo co)(ht:P.underlying ty=some (.slice el))(hs:cj P el=some n)(hz:dt P el=some z)
 (hn:0 < n) (hagg:(agg||n=1)=true) (hl:a.eval lo= .int kl l) (hc:a.eval co= .int kc c) (h0:0<=l) (hlc:l<=c) (hb:(P.bytesOf el:Int) *c<=140737488355328) (h63:c<=140737488355328)
 (hv:∀x,K (.own t x) (aj H t (some (.row x el n (List.replicate l.toNat (if agg then .agg (z.map lL)else lL (z.headD (.bool false)))))))):cq P o a E tp H w K:=by
 obtain⟨i,zv,hi,hzv,hzc,hsz,hz1,hz2⟩:=cN hz;have hbi:i.bytes=P.bytesOf el:=by simp[Program.bytesOf,hi]
 have hni:i.size=n:=by
  unfold cj at hs;rw[hi]at hs;simpa using hs
 have hzn:z.length=n:=by omega
 have hrun:=run_make (P:=P) w ty el i zv ht hi hzv kl kc l c h0 hlc (by rw[hbi];omega) (by omega);have hzc':zv.cells=z.toArray:=by rw[<-hzc]
 generalize hE:(if agg then D.agg (z.map lL)else lL (z.headD (.bool false)))=e0 at hv;have he0:e0.kn=true/\e0.cells=z.map lL:=by
  rw[<-hE];cases agg with
  | true=>exact⟨rfl,rfl⟩
  | false=>
    have:n=1:=by simpa using hagg
    match z,hzn with
    | [y],_=>
      have hz2':=hz2;cases y <;> simp at hz2' <;> simp[lL,D.kn,D.cells]
    | [],h=>simp at h;omega
    | _::_::_,h=>simp at h;omega
 have hes:∀d∈List.replicate l.toNat e0,d.kn=true/\d.cells.length=n:=λd hd=>by
  have:=qkU hd;subst this;exact⟨he0.1,by rw[he0.2];simp[hzn]⟩
 refine⟨_, .slice (some ⟨w.heap.size,0,none⟩) l.toNat c.toNat, .own t (.slice (some ⟨w.heap.size,0,none⟩) l.toNat c.toNat),_,w.alloc (.cells (madeCells zv.cells (c.toNat*i.size)) el),?_, .inl rfl,
  lc (r':= .row (.slice (some ⟨w.heap.size,0,none⟩) l.toNat c.toNat) el n (List.replicate l.toNat e0)) hst (λb hb=>by cases hb;rfl) (λm=>?_), .own _ _ rfl,hv _⟩
 ·simp only[execOp,ho,hl,hc,qjR,hrun,qjI,qj0]
 ·rw[hni,hzc'];refine⟨(madeCells z.toArray (c.toNat*n)).toList.take (l.toNat*n),⟨?_, .inr ⟨w.heap.size,c.toNat,madeCells z.toArray (c.toNat*n),by simp,qj5 _,heap_alloc_new _ _,by simp;omega,by simp only[maxLen];omega,by simp[madeCells],by simp⟩⟩,hes,?_⟩
  ·simp[madeCells];rw[show min l.toNat c.toNat=l.toNat by omega]
  ·intro k y c' hy hc';obtain⟨d,hd,hdc,hmod,he⟩:=ru hn (λd hd=>(hes d hd).2) hc';have hd':=qkU (qjD hd);subst hd';rw[he0.2]at hdc;rw[qjS]at hy;split at hy
   ·rename_i hlt;have hle:l.toNat*n<=c.toNat*n:=qj9 n (by omega);rw[qj6,Ez (by omega) _ k (by omega),hzn]at hy;exact gV hz2 hz1 (k % n) y c' hy hdc
   ·cases hy
theorem Q4{t:TypeId}{sz:Nat}{x y:Operand}{K:D->aa->Prop}(hst:StW E tp H w)(ho:o.op= .store t x y)(hs:cj P t=some sz)
 (hx:R tp (aI E.O tp H w) w (a.eval x) (ev σ x)) (hy:R tp (aI E.O tp H w) w (a.eval y) (ev σ y)) {rt:Option Nat} (hv:aP (.store rt sz x y) o.dst σ H K):cq P o a E tp H w K:=by
 simp only[aP]at hv;obtain⟨hkn,hlen,hv⟩:=hv;obtain⟨c1,c2⟩:=hy.cells hkn;have hsz:(a.eval y).cells.size=sz:=by rw[<-hlen,<-c1];simp
 have hone:∀q∈ (a.eval y).cells.toList,q.oneCell'=true:=λq hq=>by
  obtain⟨k,hk⟩:=qjY.1 hq;have hlt:k < (ev σ y).cells.length:=by rw[<-c1];exact(qjA.1 hk).1
  exact(c2 k q _ hk (qjC hlt)).1
 generalize hq:a.eval x=q at hx;split at hv
 ·rename_i id b off e1;rw[e1]at hx;cases hx;split at hv
  ·rename_i b' cells hH;obtain⟨rfl,hfit,hk⟩:=hv;obtain⟨xs,el,g1,g2,g3⟩:=hst.sat.ok id _ hH;have hrun:=xS (P:=P) hs hsz (b:=b') (off:=off) g1 (by omega) hone;have hgh:=setRow_heap w b' xs (xs.toList.take off++ (a.eval y).cells.toList++xs.toList.drop (off+ (a.eval y).cells.toList.length)).toArray el (0,0) g1;refine⟨.skip,Go.undef, .undef,_,w.setRow b' (xs.toList.take off++ (a.eval y).cells.toList++xs.toList.drop (off+ (a.eval y).cells.toList.length)).toArray,?_, .inr ⟨rfl,rfl⟩,hst.own id (some (.box b' (setAt cells off (ev σ y).cells))) (jC w b' _) (λb hb=>by cases hb;exact⟨_,hH,rfl⟩) (λr b h1 h2=>by cases h1;cases h2;exact .inr ⟨_,hH,rfl⟩) (λm r h1=>?_), .undef,hk⟩
   ·simp[execOp,ho,hq,Instr.storeAt,Instr.sureAddr,hrun]
   ·cases h1;refine⟨_,el,hgh,?_,?_⟩
    ·rw[ji (by omega)];simp;omega
    ·refine mD (by simpa using g2) (λk y c h1 h2=>⟨(g3 k y c h1 h2).1,m _ _ (g3 k y c h1 h2).2⟩) c1 (λk y c h1 h2=>⟨(c2 k y c h1 h2).1,m _ _ (c2 k y c h1 h2).2⟩) (by omega)
  ·exact hv.elim
 ·rename_i id y' n i off e1;rw[e1]at hx;cases hx with
  | eptr _ b len cap _ _ _=>
    split at hv
    ·rename_i x' el n' es hH;obtain⟨rfl,rfl,hn0,hfit,hi,hk⟩:=hv;obtain⟨xs,⟨g1,g2⟩,g3,g4⟩:=hst.sat.ok id _ hH;have hd:es[i]? =some es[i]:=by simp[hi]
     have hk:=hk _ hd;have hdn:=(g3 _ (qjD hd)).2;generalize hE:(if off=0/\sz=n' then ev σ y else D.agg (setAt es[i].cells off (ev σ y).cells))=e0 at hk;have he0:e0.kn=true/\e0.cells=setAt es[i].cells off (ev σ y).cells:=by
      rw[<-hE];split
      ·rename_i h;refine⟨hkn,?_⟩;have h1:off=0:=h.1;have h2:(ev σ y).cells.length=es[i].cells.length:=by omega
       simp[setAt,h1,h2]
      ·exact⟨rfl,rfl⟩
     rcases g2 with⟨h,_⟩|⟨g,cap',cur,hg,_,g5,g6,g7,g8,g9⟩
     ·cases h
     ·cases hg;have hle:(i+1) *n'<=cap*n':=qj9 n' (by omega);rw[qkj]at hle;have hrun:=xS (P:=P) hs hsz (b:=b) (off:=i*n'+off) g5 (by omega) hone;have hgh:=setRow_heap w b cur (cur.toList.take (i*n'+off) ++ (a.eval y).cells.toList++cur.toList.drop (i*n'+off+ (a.eval y).cells.toList.length)).toArray el (0,0) g5;have hfl:=aF (es:=es) (λd hd=>(g3 d hd).2);have hle2:(i+1) *n'<=es.length*n':=qj9 n' hi;rw[qkj]at hle2;refine⟨.skip,Go.undef, .undef,_,w.setRow b (cur.toList.take (i*n'+off) ++ (a.eval y).cells.toList++cur.toList.drop (i*n'+off+ (a.eval y).cells.toList.length)).toArray,?_, .inr ⟨rfl,rfl⟩,
       hst.own id (some (.row (.slice (some ⟨b,0,none⟩) es.length cap) el n' (es.set i e0))) (jC w b _) (λq hq=>by cases hq;exact⟨_,hH,rfl⟩) (λr q h1 h2=>by cases h1;cases h2;exact .inr ⟨_,hH,rfl⟩) (λm r h1=>?_), .undef,hk⟩
      ·simp[execOp,ho,hq,Instr.storeAt,Instr.sureAddr,hrun]
      ·cases h1;have hclen:(a.eval y).cells.toList.length=sz:=by simpa using hsz
       have hxs:xs.length=(aR es).length:=by rw[g1,hfl]
       have htk:(cur.toList.take (i*n'+off) ++ (a.eval y).cells.toList++cur.toList.drop (i*n'+off+ (a.eval y).cells.toList.length)).take (es.length*n')=
        xs.take (i*n'+off) ++ (a.eval y).cells.toList++xs.drop (i*n'+off+ (a.eval y).cells.toList.length):=by
        apply qkQ;intro k;rw[gA (by omega),qjS,gA (by simp;omega),hclen];by_cases h1:k < es.length*n'
        ·rw[if_pos h1];by_cases h2:i*n'+off<=k/\k < i*n'+off+sz
         ·rw[if_pos h2,if_pos h2]
         ·rw[if_neg h2,if_neg h2,<-g9,qjS,if_pos h1]
        ·rw[if_neg h1,if_neg (by omega)];rw[qks (by rw[g1];omega)]
       have hnl:(xs.take (i*n'+off) ++ (a.eval y).cells.toList++xs.drop (i*n'+off+ (a.eval y).cells.toList.length)).length=es.length*n':=by
        simp only[qj4,qj3,qkz,hclen,g1];omega
       have hml:(cur.toList.take (i*n'+off) ++ (a.eval y).cells.toList++cur.toList.drop (i*n'+off+ (a.eval y).cells.toList.length)).toArray.size=cap*n':=by
        simp only[qk4,qj4,qj3,qkz,hclen,qjT,g8];omega
       have hfin:i*n'+off+ (ev σ y).cells.length<=(aR es).length:=by omega
       refine⟨xs.take (i*n'+off) ++ (a.eval y).cells.toList++xs.drop (i*n'+off+ (a.eval y).cells.toList.length),⟨by rw[qlD];exact hnl, .inr ⟨b,cap,_,by rw[qlD],qj5 _,hgh,by simpa using g6,g7,hml,by rw[qlD];exact htk⟩⟩,λd hd=>?_,?_⟩
       ·rcases qkp hd with hd|rfl
        ·exact g3 d hd
        ·exact⟨he0.1,by rw[he0.2,ji (by omega)];exact hdn⟩
       ·rw[RM hn0 (λd hd=>(g3 d hd).2) hd he0.2 (by omega)];exact mD hxs (λk y c h1 h2=>⟨(g4 k y c h1 h2).1,m _ _ (g4 k y c h1 h2).2⟩) c1 (λk y c h1 h2=>⟨(c2 k y c h1 h2).1,m _ _ (c2 k y c h1 h2).2⟩) hfin
    ·exact hv.elim
 ·exact hv.elim
theorem Jc{n:Nat}{d:D}{x:Value}{K:List D->Prop}(hst:StW E tp H w)(hx:R tp (aI E.O tp H w) w x d)(hn:0 < n)(hv:gi n d H K):
 ∃es,K es/\(∀d∈es,d.kn=true/\d.cells.length=n)/\∃ (ao:Option Addr) (c:Nat) (news:List Value),x= .slice ao es.length c/\(ao=none->es.length=0)/\news.length=es.length*n/\
  (∀a,ao=some a->∀j u,news[j]? =some u->w.cell? (a.add j)=some u)/\(∀u∈news,u.oneCell'=true)/\ba (R tp (aI E.O tp H w) w) news (aR es):=by
 unfold gi at hv;split at hv
 ·rename_i n' es;obtain⟨rfl,hk⟩:=hv;cases hx with
  | nolist ao cap _=>exact⟨[],hk,by simp,ao,cap, [],rfl,λ_=>rfl,by simp,λ_ _ j u h=>by simp at h,by simp,λk y c h=>by simp at h⟩
  | list b off cap _ _ f hI hc hm _ hes hcell hone hr=>
    have hfl:=aF (es:=es) (λd hd=>(hes d hd).2);have hc':∀k,k < es.length*n'->∃c,(aR es)[k]? =some c:=λk hk=>⟨(aR es)[k]'(by omega),qjC (by omega)⟩
    refine⟨es,hk,hes,some ⟨b,off,none⟩,cap,(List.range (es.length*n')).map f,rfl,(λh=>by cases h),by simp,λa ha j u hu=>?_,λu hu=>?_,λk y c hy hc=>?_⟩
    ·cases ha;rw[gU];rw[qjU]at hu;obtain⟨z,hz,rfl⟩:=ay hu;have hj:j < es.length*n':=by simpa using (qjA.1 hz).1
     rw[qkX hj]at hz;cases hz;obtain⟨c,hc2⟩:=hc' j hj;exact hcell j c hc2
    ·obtain⟨j,hj,rfl⟩:=qjN.1 hu;obtain⟨c,hc2⟩:=hc' j (by simpa using hj);exact hone j c hc2
    ·rw[qjU]at hy;obtain⟨z,hz,rfl⟩:=ay hy;have hj:k < es.length*n':=by simpa using (qjA.1 hz).1
     rw[qkX hj]at hz;cases hz;exact⟨hone k c hc,hr k c hc⟩
 ·rename_i id y;cases hx with
  | own _ _ h1=>
    split at hv
    ·rename_i x' el n' es hH;obtain⟨rfl,rfl,hk⟩:=hv;obtain⟨xs,hown,g3,g4⟩:=hst.sat.ok id _ hH;have hone:∀u∈xs,u.oneCell'=true:=λu hu=>by
      obtain⟨k,hk'⟩:=qjY.1 hu;have hfl:=aF (es:=es) (λd hd=>(g3 d hd).2);have hlt:k < (aR es).length:=by rw[hfl,<-hown.1];exact(qjA.1 hk').1
      exact(g4 k u _ hk' (qjC hlt)).1
     have hown2:=hown;obtain⟨g1,g2⟩:=hown;rcases g2 with⟨rfl,h⟩|⟨g,cap,cur,rfl,_⟩
     ·have:es=[]:=qjP h;subst this;exact⟨[],hk,by simp,none,0, [],rfl,λ_=>rfl,by simp,λ_ _ j u h=>by simp at h,by simp,λk y c h=>by simp at h⟩
     ·refine⟨es,hk,g3,some ⟨g,0,none⟩,cap,xs,rfl,(λh=>by cases h),g1,λa ha j u hu=>?_,hone,g4⟩;cases ha;exact hown2.cells rfl j u hu
    ·exact hv.elim
 ·have:=hx.inv_v;subst this;exact⟨[],hv,by simp,none,0, [],rfl,λ_=>rfl,by simp,λ_ _ j u h=>by simp at h,by simp,λk y c h=>by simp at h⟩
 ·rename_i id y n' lo hi;split at hv
  ·rename_i x' el n'' es hH;obtain⟨hxe,rfl,rfl,hk⟩:=hv;subst hxe;obtain⟨xs,hown,g3,g4⟩:=hst.sat.ok id _ hH;have hfl:=aF (es:=es) (λd hd=>(g3 d hd).2);obtain⟨g1,g2⟩:=hown;cases hx with
   | subnil=>exact⟨_,hk,by simp,none,0, [],by simp,λ_=>by simp,by simp,λ_ _ j u h=>by simp at h,by simp,λk y c h=>by simp at h⟩
   | sub _ b len cap _ _ _ p h1 h2 h3 hm hp=>
     rcases g2 with⟨h,_⟩|⟨g,cap',cur,h,_,g5,g6,g7,g8,g9⟩
     ·cases h
     ·cases h;have hcell:=(show w.ownsRow 0 el n'' (.slice (some ⟨b,0,none⟩) es.length cap) es.length xs from⟨g1, .inr ⟨b,cap,cur,rfl,qj5 _,g5,g6,g7,g8,g9⟩⟩).cells (g:=b) rfl;have hlen:((es.take hi).drop lo).length=hi -lo:=by simp;omega
      have hmul:(hi -lo) *n''+lo*n''=hi*n'':=by rw[<-qkH];congr 1;omega
      have hmul2:hi*n''<=es.length*n'':=qj9 n'' h2;have hflat:∀ (k:Nat) (c:D),(aR ((es.take hi).drop lo))[k]? =some c->(aR es)[lo*n''+k]? =some c:=by
       intro k c hk;rw[Fu (n:=n'') lo (λd hd=>(g3 d (qjX hd)).2)]at hk;exact iD hk
      have hone:∀ (k:Nat) (u:Value),xs[k]? =some u->u.oneCell'=true:=λk u hu=>by
       have hlt:k < (aR es).length:=by rw[hfl,<-g1];exact(qjA.1 hu).1
       exact(g4 k u _ hu (qjC hlt)).1
      refine⟨_,hk,λd hd=>g3 d (qjX (qkh hd)),p,cap -lo,(xs.drop (lo*n'')).take ((hi -lo) *n''),by rw[hlen],λhpn=>?_,?_,λa ha j u hu=>?_,λu hu=>?_,λk y c hy hc=>?_⟩
      ·rw[hlen];by_cases hlt:lo < cap
       ·have:=hp (.inl hlt);rw[hpn]at this;cases this
       ·omega
      ·rw[hlen,qj3,qkz,g1];omega
      ·rw[qjS]at hu;split at hu
       ·rename_i hj;rw[qkb]at hu;have hlt:lo < hi:=by
         rcases Nat.lt_or_ge lo hi with h|h
         ·exact h
         ·rw[Nat.sub_eq_zero_of_le h,Nat.zero_mul]at hj;omega
        have:=hp (.inl (by omega));rw[this]at ha;cases ha;have hc:=hcell _ u hu;rw[gU]at hc ⊢;simpa using hc
       ·cases hu
      ·obtain⟨j,hj⟩:=qjY.1 (qkh (qjX hu));exact hone j u hj
      ·rw[qjS]at hy;split at hy
       ·rw[qkb]at hy;exact g4 _ y c hy (hflat k c hc)
       ·cases hy
  ·exact hv.elim
 ·exact hv.elim
theorem Om{n:Nat}{d:D}{x:Value}{tx:TypeId}{K:List D->Prop}(hst:StW E tp H w)(hk:(∃e',P.underlying tx=some (.slice e'))\/P.underlying tx=some .string)(hx:R tp (aI E.O tp H w) w x d)(hn:0 < n)(hv:ov n d H K):
 ∃es,K es/\(∀d∈es,d.kn=true/\d.cells.length=n)/\∃news:List Value,Src P n tx x es.length news w/\ba (R tp (aI E.O tp H w) w) news (aR es):=by
 unfold ov at hv;split at hv
 ·rename_i s;obtain⟨rfl,hv⟩:=hv;have hxs:=hx.inv_v;subst hxs;have hsl:(xR s).length=s.size:=by
   unfold xR;rw[qka,qjT];rfl
  have hfl:aR (xR s)=xR s:=by
   unfold xR aR
   induction s.data.toList with
   | nil=>rfl
   | cons b l ih=>rw[qj2,qkA,ih];rfl
  refine⟨xR s,hv,λd hd=>?_,byteCells s,⟨hk,λ_=>by rw[hsl];rfl,by rw[hsl];exact firstCells_string s w,by rw[hsl];exact firstCells_string s w.drew,by rw[hsl,byteCells_length,Nat.mul_one],λu hu=>?_⟩,?_⟩
  ·obtain⟨b,_,rfl⟩:=qjN.1 hd;exact⟨rfl,rfl⟩
  ·obtain⟨_,_,rfl⟩:=qjN.1 hu;rfl
  ·rw[hfl];intro k y c hy hc;unfold byteCells at hy;unfold xR at hc;rw[qjU]at hy hc;obtain⟨b,hb,rfl⟩:=ay hy;rw[hb]at hc;cases hc;exact⟨rfl, .int _ _⟩
 ·obtain⟨es,hk1,hes,ao,c,news,hxe,hao,hnl,hnews,hone,hcells⟩:=Jc hst hx hn hv;refine⟨es,hk1,hes,news,?_,hcells⟩;subst hxe;cases ao with
  | none=>
    have h0:=hao rfl;have hne:news=[]:=qjP (by rw[hnl,h0];simp);subst hne;rw[h0];exact⟨hk,λ_=>rfl,run_firstCells_none w n 0 0 c,run_firstCells_none w.drew n 0 0 c,by simp,λ_ h=>by cases h⟩
  | some ad=>exact⟨hk,λ_=>rfl,run_firstCells_some w n es.length ad es.length c news hnl (hnews ad rfl),run_firstCells_some w.drew n es.length ad es.length c news hnl (by simpa using hnews ad rfl),hnl,hone⟩
def DV{Q:Value->D->Prop}{xs ys:List Value}{as bs:List D}(h:xs.length=as.length)(h1:ba Q xs as)(h2:ba Q ys bs):ba Q (xs++ys) (as++bs):=by
 intro k y c hy hc;by_cases hk:k < xs.length
 ·rw[qjQ hk]at hy;rw[qjQ (by omega)]at hc;exact h1 k y c hy hc
 ·rw[qjK (by omega)]at hy;rw[qjK (by omega),<-h]at hc;exact h2 _ y c hy hc
theorem Fg{t tx el:TypeId}{n bytes:Nat}{z:List Value}{c:Call}{x y:Operand}{K:D->aa->Prop}(hst:StW E tp H w)(ho:o.op= .call c)(hc:c.callee= .builtin .append)(hat:c.argTypes.toList=[t,tx])(hargs:c.args.toList=[x,y])
 (ht:P.underlying t=some (.slice el)) (htx:(∃e',P.underlying tx=some (.slice e'))\/P.underlying tx=some .string) (hs:cj P el=some n) (hz:dt P el=some z) (hby:P.bytesOf el=bytes) (hn:0 < n)
 (hx:R tp (aI E.O tp H w) w (a.eval x) (ev σ x)) (hy:R tp (aI E.O tp H w) w (a.eval y) (ev σ y)) {rt:Option Nat} (hv:aP (.append rt el n bytes x y) o.dst σ H K):cq P o a E tp H w K:=by
 obtain⟨cl,⟨args⟩,⟨ats⟩⟩:=c;simp only at hat hargs hc;subst hat;subst hargs;subst hc;simp only[aP]at hv;obtain⟨es2,hv,hes2,news,hsrc,hcells⟩:=Om hst htx hy hn hv;obtain⟨i,zv,hi,hzv,hzc,hsz,hz1,hz2⟩:=cN hz;have hni:i.size=n:=by
  unfold cj at hs;rw[hi]at hs;simpa using hs
 have hbi:i.bytes=bytes:=by rw[<-hby];simp[Program.bytesOf,hi]
 have hzs:zv.cells.size=i.size:=by rw[hsz,<-hzc];simp
 generalize hq:a.eval x=q at hx;have main:∀ (id:Nat) (v:Value) (es:List D) (xs:List Value),q=v->w.ownsRow 0 el n v es.length xs->(∀d∈es,d.kn=true/\d.cells.length=n)->ba (R tp (aI E.O tp H w) w) xs (aR es)->
  (∀b,v.ownBlock=some b->∃r,H id=some r/\r.blk=some b)->(es.length+es2.length) *bytes<=140737488355328->es.length+es2.length<=140737488355328->
  (∀v',K (.own id v') (aj H id (some (.row v' el n (es++es2)))))->cq P o a E tp H w K:=by
  intro id v es xs hqv hown hes hc1 hblk hb1 hb2 hk;obtain⟨v',w',r1,r2,r3,r4⟩:=KW (P:=P) t tx o.type el i zv ht hi hzv hzs v es.length xs (by rw[hni];exact hown) (a.eval y) es2.length news (by rw[hni];exact hsrc) hb2 (by rw[hbi];exact hb1);rw[hni]at r2;have hfl:=aF (es:=es) (λd hd=>(hes d hd).2);have hv1:v'.oneCell'=true:=by
   rcases r2.2 with⟨rfl,_⟩|⟨g,cap,cur,rfl,_⟩ <;> rfl
  refine⟨.value v',v', .own id v',_,w',?_, .inl rfl,hst.own id (some (.row v' el n (es++es2))) r3 hblk (λr b h1 h2=>?_) (λm r h1=>?_), .own _ _ hv1,hk v'⟩
  ·simp[execOp,ho,resolve,invoke,builtin,hq,hqv,r1]
  ·cases h1;rcases r4 b h2 with h3|h3
   ·exact .inl h3
   ·exact .inr (hblk b h3)
  ·cases h1;refine⟨xs++news,by rw[qj4];exact r2,λd hd=>?_,?_⟩
   ·rcases qjM.1 hd with hd|hd
    ·exact hes d hd
    ·exact hes2 d hd
   ·rw[lD];exact DV (by rw[hown.1,hfl]) (λk y c h1 h2=>⟨(hc1 k y c h1 h2).1,m _ _ (hc1 k y c h1 h2).2⟩) (λk y c h1 h2=>⟨(hcells k y c h1 h2).1,m _ _ (hcells k y c h1 h2).2⟩)
 split at hv
 ·rename_i id v e1;rw[e1]at hx;cases hx with
  | own _ _ h1=>
    split at hv
    ·rename_i x' el' n' es hH;obtain⟨rfl,rfl,rfl,hb1,hb2,hk⟩:=hv;obtain⟨xs,hown,g3,g4⟩:=hst.sat.ok id _ hH;exact main id x' es xs rfl hown g3 g4 (λb hb=>⟨_,hH,hb⟩) hb1 hb2 hk
    ·exact hv.elim
 ·rename_i e1;rw[e1]at hx;have:=hx.inv_v;split at hv
  ·rename_i t' hd;exact main t' (.slice none 0 0) [] [] this (qkR _ _ _ _) (by simp) (λk y c h=>by simp at h) (λb hb=>by simp[Value.ownBlock]at hb) (by simpa using hv.1) (by simpa using hv.2.1) (by simpa using hv.2.2)
  ·exact hv.elim
 ·rename_i id y n' lo up e1;rw[e1]at hx;split at hv
  ·rename_i x' el' n'' es hH;obtain⟨hxe,rfl,rfl,rfl,rfl,hb1,hb2,hk⟩:=hv;subst hxe;obtain⟨xs,hown,g3,g4⟩:=hst.sat.ok id _ hH;have hlen:(es.take up).length<=up:=by simp;omega
   cases hx with
   | subnil=>
     have hes:es=[]:=by
      rcases hown.2 with⟨_,h⟩|⟨g,cap,cur,h,_⟩
      ·exact qjP h
      ·cases h
     subst hes;exact main id (.slice none 0 0) [] [] rfl (qkR _ _ _ _) (by simp) (λk y c h=>by simp at h) (λb hb=>by simp[Value.ownBlock]at hb) (by simpa using hb1) (by simpa using hb2) (by simpa using hk)
   | sub _ b len cap _ _ _ p h1 h2 h3 hm hp=>
     have:=hp (.inr rfl);subst this;obtain⟨g1,g2⟩:=hown;rcases g2 with⟨h,_⟩|⟨g,cap',cur,h,g4',g5,g6,g7,g8,g9⟩
     ·cases h
     ·cases h;have hl:(es.take up).length=up:=by simp;omega
      have hmul2:up*n''<=es.length*n'':=qj9 n'' h2;refine main id (.slice (some ⟨b,0*n'',none⟩) (up -0) (cap -0)) (es.take up) (xs.take (up*n'')) rfl ?_ (λd hd=>g3 d (qjX hd)) ?_ (λq hq=>⟨_,hH,by simpa [Value.ownBlock,Res.blk]using hq⟩) (by rw[hl];exact hb1) (by rw[hl];exact hb2) hk
      ·rw[hl];refine⟨by rw[qj3,g1];omega, .inr ⟨b,cap,cur,by simp,qj5 _,g5,by omega,g7,g8,?_⟩⟩;rw[<-g9,qlF];congr 1;omega
      ·intro k y c hy hc;rw[qjS]at hy;split at hy
       ·exact g4 k y c hy (iD hc)
       ·cases hy
  ·exact hv.elim
 ·exact hv.elim
def Ka{n:Nat}{es:List D}{i:Nat}(h:∀d∈es,d.cells.length=n)(hi:i<=es.length):(aR es).take (i*n)=aR (es.take i)/\(aR es).drop (i*n)=aR (es.drop i):=by
 have e1:aR es=aR (es.take i) ++aR (es.drop i):=by rw[<-lD,qkr]
 have e2:(aR (es.take i)).length=i*n:=by
  rw[aF (λd hd=>h d (qjX hd)),qj3];congr 1;omega
 rw[<-e2];constructor
 ·conv=>lhs;rw[e1]
  exact qlp
 ·conv=>lhs;rw[e1]
  exact List.drop_left
def J9{n:Nat}{es es2:List D}{lo:Nat}(h:∀d∈es,d.cells.length=n)(h2:∀d∈es2,d.cells.length=n)(hfit:lo+es2.length<=es.length):
 aR (es.take lo++es2++es.drop (lo+es2.length))=setAt (aR es) (lo*n) (aR es2):=by
 unfold setAt;rw[lD,lD,aF h2,<-qkH,(Ka h (by omega)).1,(Ka h hfit).2]
theorem Cx(hst:StW E tp H w){id b el n cap lo:Nat}{es es2:List D}(hH:H id=some (.row (.slice (some ⟨b,0,none⟩) es.length cap) el n es))(hes2:∀d∈es2,d.kn=true/\d.cells.length=n)
 {vs:List Value} (hvl:vs.length=es2.length*n) (hvc:ba (R tp (aI E.O tp H w) w) vs (aR es2)) (hone:∀u∈vs,u.oneCell'=true) (hfit:lo+es2.length<=es.length):
 ∃w',(storeCells ⟨b,lo*n,none⟩ vs 0).run P w= .ok () w'/\
  (StW E tp (aj H id (some (.row (.slice (some ⟨b,0,none⟩) es.length cap) el n (es.take lo++es2++es.drop (lo+es2.length))))) w'/\
    ∀y e,R tp (aI E.O tp H w) w y e->R tp (aI E.O tp (aj H id (some (.row (.slice (some ⟨b,0,none⟩) es.length cap) el n (es.take lo++es2++es.drop (lo+es2.length))))) w') w' y e):=by
 obtain⟨xs,⟨g1,g2⟩,g3,g4⟩:=hst.sat.ok id _ hH;rcases g2 with⟨h,_⟩|⟨g,cap',cur,hg,g4',g5,g6,g7,g8,g9⟩
 ·cases h
 ·cases hg;have hlen:(es.take lo++es2++es.drop (lo+es2.length)).length=es.length:=by simp;omega
  have hm1:(lo+es2.length) *n<=es.length*n:=qj9 n hfit;have hm2:es.length*n<=cap*n:=qj9 n g6;rw[qkH]at hm1;have hfl:=aF (es:=es) (λd hd=>(g3 d hd).2);have hfl2:=aF (es:=es2) (λd hd=>(hes2 d hd).2);have hrun:=run_storeCells_at P b (lo*n) el vs 0 cur w g5 (by omega) hone;simp only[qkK]at hrun;have hgh:=setRow_heap w b cur (cur.toList.take (lo*n) ++vs++cur.toList.drop (lo*n+vs.length)).toArray el (0,0) g5;refine⟨_,hrun,hst.own id _ (jC w b _) (λq hq=>by cases hq;exact⟨_,hH,rfl⟩) (λr q h1 h2=>by cases h1;cases h2;exact .inr ⟨_,hH,rfl⟩) (λm r h1=>?_)⟩;cases h1;have hxs:xs.length=(aR es).length:=by rw[g1,hfl]
  have htk:(cur.toList.take (lo*n) ++vs++cur.toList.drop (lo*n+vs.length)).take (es.length*n)=xs.take (lo*n) ++vs++xs.drop (lo*n+vs.length):=by
   apply qkQ;intro k;rw[gA (by omega),qjS,gA (by simp;omega)];by_cases h1:k < es.length*n
   ·rw[if_pos h1];by_cases h2:lo*n<=k/\k < lo*n+vs.length
    ·rw[if_pos h2,if_pos h2]
    ·rw[if_neg h2,if_neg h2,<-g9,qjS,if_pos h1]
   ·rw[if_neg h1,if_neg (by omega)];rw[qks (by rw[g1];omega)]
  have hnl:(xs.take (lo*n) ++vs++xs.drop (lo*n+vs.length)).length=es.length*n:=by
   simp only[qj4,qj3,qkz,g1];omega
  have hml:(cur.toList.take (lo*n) ++vs++cur.toList.drop (lo*n+vs.length)).toArray.size=cap*n:=by
   simp only[qk4,qj4,qj3,qkz,qjT,g8];omega
  refine⟨xs.take (lo*n) ++vs++xs.drop (lo*n+vs.length),⟨by rw[hlen];exact hnl, .inr ⟨b,cap,_,by rw[hlen],qj5 _,hgh,by rw[hlen];exact g6,g7,hml,by rw[hlen];exact htk⟩⟩,λd hd=>?_,?_⟩
  ·rcases qjM.1 hd with hd|hd
   ·rcases qjM.1 hd with hd|hd
    ·exact g3 d (qjX hd)
    ·exact hes2 d hd
   ·exact g3 d (qkh hd)
  ·rw[J9 (λd hd=>(g3 d hd).2) (λd hd=>(hes2 d hd).2) hfit];exact mD hxs (λk y c h1 h2=>⟨(g4 k y c h1 h2).1,m _ _ (g4 k y c h1 h2).2⟩) (by rw[hvl,hfl2]) (λk y c h1 h2=>⟨(hvc k y c h1 h2).1,m _ _ (hvc k y c h1 h2).2⟩) (by omega)
def PD{agg:Bool}{z:List Value}{n:Nat}(hzn:z.length=n)(hagg:(agg||decide (n=1))=true)(hz2:z.all (λx=>match x with| .string s=>decide (s.size<=1000000)| .bool _| .int _ _| .pointer _| .slice _ _ _| .nilFunc| .map _=>true|_=>false)=true):
 (La agg z).kn=true/\(La agg z).cells=z.map lL:=by
 unfold La;cases agg with
 | true=>exact⟨rfl,rfl⟩
 | false=>
   have:n=1:=by simpa using hagg
   match z,hzn with
   | [y],_=>
     cases y <;> simp at hz2 <;> simp[lL,D.kn,D.cells]
   | [],h=>simp at h;omega
   | _::_::_,h=>simp at h;omega
theorem Fb{z:List Value}{n m:Nat}{e0:D}(hn:0 < n)(hzn:z.length=n)(he0:e0.kn=true/\e0.cells=z.map lL)(hz2:z.all (λx=>match x with| .string s=>decide (s.size<=1000000)| .bool _| .int _ _| .pointer _| .slice _ _ _| .nilFunc| .map _=>true|_=>false)=true)(hz1:z.all (·.oneCell')=true){I:Nat->Prop} :
 (∀d∈List.replicate m e0,d.kn=true/\d.cells.length=n)/\(Builtin.zeroCells z.toArray m).toList.length=m*n/\ba (R tp I w) (Builtin.zeroCells z.toArray m).toList (aR (List.replicate m e0))/\∀u∈ (Builtin.zeroCells z.toArray m).toList,u.oneCell'=true:=by
 have hes:∀d∈List.replicate m e0,d.kn=true/\d.cells.length=n:=λd hd=>by
  have:=qkU hd;subst this;exact⟨he0.1,by rw[he0.2];simp[hzn]⟩
 have hget:∀k,k < m*n->(Builtin.zeroCells z.toArray m).toList[k]? =z[k % n]?:=λk hk=>by
  have hm:k % z.length < z.length:=qk7 _ (by omega);simp[Builtin.zeroCells,hzn,hk];rw[<-hzn];simp[hm]
 refine⟨hes,by simp[Builtin.zeroCells,hzn],λk y c hy hc=>?_,λu hu=>?_⟩
 ·obtain⟨d,hd,hdc,hmod,he⟩:=ru hn (λd hd=>(hes d hd).2) hc;have hd':=qkU (qjD hd);subst hd';rw[he0.2]at hdc;have hlt:k < m*n:=by
   have:=(qjA.1 hc).1;rw[aF (λd hd=>(hes d hd).2),qkN]at this;exact this
  rw[hget k hlt]at hy;exact gV hz2 hz1 (k % n) y c hy hdc
 ·obtain⟨k,hk⟩:=qjY.1 hu;have hlt:k < m*n:=by
   have:=(qjA.1 hk).1;simpa [Builtin.zeroCells,hzn]using this
  rw[hget k hlt]at hk;exact qjF.1 hz1 u (qjD hk)
theorem Q6{t el:TypeId}{n:Nat}{agg:Bool}{z:List Value}{c:Call}{x:Operand}{K:D->aa->Prop}(hst:StW E tp H w)(ho:o.op= .call c)(hc:c.callee= .builtin .clear)(hat:c.argTypes.toList=[t])(hargs:c.args.toList=[x])
 (ht:P.underlying t=some (.slice el)) (hs:cj P el=some n) (hz:dt P el=some z) (hn:0 < n) (hagg:(agg||decide (n=1))=true)
 (hx:R tp (aI E.O tp H w) w (a.eval x) (ev σ x)) (hv:aP (.clear n agg z x) o.dst σ H K):cq P o a E tp H w K:=by
 obtain⟨cl,⟨args⟩,⟨ats⟩⟩:=c;simp only at hat hargs hc;subst hat;subst hargs;subst hc;simp only[aP]at hv;obtain⟨i,zv,hi,hzv,hzc,hsz,hz1,hz2⟩:=cN hz;have hni:i.size=n:=by
  unfold cj at hs;rw[hi]at hs;simpa using hs
 have hzn:z.length=n:=by omega
 have hzc':zv.cells=z.toArray:=by rw[<-hzc]
 have he0:=PD hzn hagg hz2;have mt:R tp (aI E.O tp H w) w (.tuple #[]) (.tup []):= .tup [] [] rfl (λk x c h=>by simp at h);generalize hq:a.eval x=q at hx;have nothing:∀ (ao:Option Addr) (c:Nat),q= .slice ao 0 c->K (.tup []) H->cq P o a E tp H w K:=λao c hqe hk=>by
  refine⟨.value (.tuple #[]), .tuple #[], .tup [],H,w,?_, .inl rfl,⟨hst,λ_ _ h=>h⟩,mt,hk⟩;cases ao <;> simp[execOp,ho,resolve,invoke,builtin,hq,hqe,Builtin.clear_,run_underlying ht]
 have same:∀ (id:Nat) (r:Res),H id=some r->aj H id (some r)=H:=λid r h=>by
  funext j;unfold aj;split
  ·rename_i e;subst e;exact h.symm
  ·rfl
 have main:∀ (id b el' cap lo up:Nat) (es:List D),H id=some (.row (.slice (some ⟨b,0,none⟩) es.length cap) el' n es)->lo<=up->up<=es.length->∀ (p:Option Addr) (cc:Nat),q= .slice p (up -lo) cc->(lo < up->p=some ⟨b,lo*n,none⟩)->
  K (.tup []) (aj H id (some (.row (.slice (some ⟨b,0,none⟩) es.length cap) el' n (es.take lo++List.replicate (up -lo) (La agg z) ++es.drop up))))->cq P o a E tp H w K:=by
  intro id b el' cap lo up es hH hlu hue p cc hqe hp hk;by_cases h0:up=lo
  ·subst h0;rw[qkV]at hqe;refine nothing p cc hqe ?_;rw[qkV,qlo,qkF,qkr,same id _ hH]at hk;exact hk
  ·have hlt:lo < up:=by omega
   have hpe:=hp hlt;subst hpe;obtain⟨r1,r2,r3,r4⟩:=Fb (tp:=tp) (w:=w) (m:=up -lo) (I:=aI E.O tp H w) hn hzn he0 hz2 hz1;obtain⟨w',s1,s2⟩:=Cx (P:=P) hst (lo:=lo) hH r1 (by rw[qkN];exact r2) r3 r4 (by rw[qkN];omega);rw[qkN,show lo+ (up -lo)=up by omega]at s2;refine⟨.value (.tuple #[]), .tuple #[], .tup [],_,w',?_, .inl rfl,s2,s2.2 _ _ mt,hk⟩;have hne:∃m,up -lo=m+1:=⟨up -lo -1,by omega⟩
   obtain⟨m,hm⟩:=hne;rw[hm]at hqe s1;simp[execOp,ho,resolve,invoke,builtin,hq,hqe,Builtin.clear_,run_underlying ht,zeroValue,typeInfo,hi,hzv,hzc',s1]
 split at hv
 ·rename_i id y e1;rw[e1]at hx;cases hx with
  | own _ _ h1=>
    split at hv
    ·rename_i x' el' n' es hH;obtain⟨hxe,rfl,hk⟩:=hv;subst hxe;obtain⟨xs,⟨g1,g2⟩,g3,g4⟩:=hst.sat.ok id _ hH;rcases g2 with⟨h,h0⟩|⟨g,cap,cur,h,_⟩
     ·have:es=[]:=qjP h0;subst this;refine nothing none 0 h ?_;simp only[qlE,qlo]at hk;rw[same id _ hH]at hk;exact hk
     ·rw[h]at hH hk;exact main id g el' cap 0 es.length es hH (qj5 _) (qjL _) (some ⟨g,0,none⟩) cap (by simpa using h) (λ_=>by simp) (by simpa using hk)
    ·exact hv.elim
 ·rename_i id y n' lo up e1;rw[e1]at hx;split at hv
  ·rename_i x' el' n'' es hH;obtain⟨hxe,rfl,rfl,hk⟩:=hv;subst hxe;obtain⟨xs,⟨g1,g2⟩,g3,g4⟩:=hst.sat.ok id _ hH;cases hx with
   | subnil=>
     rcases g2 with⟨_,h0⟩|⟨g,cap,cur,h,_⟩
     ·have:es=[]:=qjP h0;subst this;refine nothing none 0 rfl ?_;simp only[qkV,qlo,qlt,qli,qkF]at hk;rw[same id _ hH]at hk;exact hk
     ·cases h
   | sub _ b len cap _ _ _ p h1 h2 h3 hm hp=>
     rcases g2 with⟨h,_⟩|⟨g,cap',cur,h,_⟩
     ·cases h
     ·cases h;exact main id b el' cap lo up es hH h1 h2 p _ rfl (λh=>hp (.inl (by omega))) hk
  ·exact hv.elim
 ·rename_i e1;rw[e1]at hx;exact nothing none 0 hx.inv_v hv
 ·exact hv.elim
theorem Un{t el:TypeId}{n:Nat}{c:Call}{x y:Operand}{K:D->aa->Prop}(hst:StW E tp H w)(ho:o.op= .call c)(hc:c.callee= .builtin .copy)(hat:c.argTypes.toList=[t,t])(hargs:c.args.toList=[x,y])
 (ht:P.underlying t=some (.slice el)) (hs:cj P el=some n) (hn:0 < n)
 (hx:R tp (aI E.O tp H w) w (a.eval x) (ev σ x)) (hy:R tp (aI E.O tp H w) w (a.eval y) (ev σ y)) (hv:aP (.copy n x y) o.dst σ H K):cq P o a E tp H w K:=by
 obtain⟨cl,⟨args⟩,⟨ats⟩⟩:=c;simp only at hat hargs hc;subst hat;subst hargs;subst hc;simp only[aP]at hv;obtain⟨es2,hv,hes2,ao,cc,news,hyv,hao,hnl,hnews,hone,hcells⟩:=Jc hst hy hn hv;generalize hq:a.eval x=q at hx;have same:∀ (id:Nat) (r:Res),H id=some r->aj H id (some r)=H:=λid r h=>by
  funext j;unfold aj;split
  ·rename_i e;subst e;exact h.symm
  ·rfl
 have nothing:∀ (po:Option Addr) (dl c:Nat),q= .slice po dl c->min es2.length dl=0->K (.v (.int .i64 (0:Nat))) H->cq P o a E tp H w K:=λpo dl c hqe h0 hk=>by
  refine⟨.value (.int .i64 (0:Nat)), .int .i64 (0:Nat),_,H,w,?_, .inl rfl,⟨hst,λ_ _ h=>h⟩, .int _ _,hk⟩;have h0':Nat.min es2.length dl=0:=h0;cases po <;> cases ao <;> simp[execOp,ho,resolve,invoke,builtin,hq,hqe,hyv,Builtin.copy_,run_underlying ht,Builtin.lenOf,aC hs,h0',Builtin.firstCells,loadCells,loadCellsFrom,storeCells,goInt]
 have main:∀ (id b el' cap lo up:Nat) (es:List D),H id=some (.row (.slice (some ⟨b,0,none⟩) es.length cap) el' n es)->lo<=up->up<=es.length->∀ (p:Option Addr) (c:Nat),q= .slice p (up -lo) c->(lo < up->p=some ⟨b,lo*n,none⟩)->
  K (.v (.int .i64 (min es2.length (up -lo):Nat))) (aj H id (some (.row (.slice (some ⟨b,0,none⟩) es.length cap) el' n (es.take lo++es2.take (up -lo) ++es.drop (lo+min es2.length (up -lo))))))->cq P o a E tp H w K:=by
  intro id b el' cap lo up es hH hlu hue p c hqe hp hk;by_cases h0:min es2.length (up -lo)=0
  ·refine nothing p _ c hqe h0 ?_;have ht0:es2.take (up -lo)=[]:=by
    apply qjP;rw[qj3];omega
   rw[h0,ht0,qkF,qkK,qkr,same id _ hH]at hk;exact hk
  ·have hlt:lo < up:=by omega
   have hpe:=hp hlt;subst hpe;have hml:(es2.take (up -lo)).length=min es2.length (up -lo):=by rw[qj3];omega
   have hmle:min es2.length (up -lo) *n<=es2.length*n:=qj9 n (Nat.min_le_left _ _);have hvl:(news.take (min es2.length (up -lo) *n)).length=(es2.take (up -lo)).length*n:=by rw[hml,qj3,hnl];omega
   obtain⟨w',s1,s2⟩:=Cx (P:=P) hst (lo:=lo) (es2:=es2.take (up -lo)) (vs:=news.take (min es2.length (up -lo) *n)) hH (λd hd=>hes2 d (qjX hd)) hvl (λk y c hy hc=>by
    rw[qjS]at hy;split at hy
    ·exact hcells k y c hy (iD hc)
    ·cases hy) (λu hu=>hone u (qjX hu)) (by rw[hml];omega)
   rw[hml]at s2;refine⟨.value (.int .i64 (min es2.length (up -lo):Nat)), .int .i64 (min es2.length (up -lo):Nat),_,_,w',?_, .inl rfl,s2, .int _ _,hk⟩;have hao':∃ad,ao=some ad:=by
    cases ao with
    | none=>have:=hao rfl;omega
    | some ad=>exact⟨ad,rfl⟩
   obtain⟨ad,rfl⟩:=hao';have hld:=run_loadCells_list (P:=P) w ad (news.take (min es2.length (up -lo) *n)) (λj v hj=>by
    rw[qjS]at hj;split at hj
    ·exact hnews ad rfl j v hj
    ·cases hj)
   have hnn:(news.take (min es2.length (up -lo) *n)).length=Nat.min es2.length (up -lo) *n:=by rw[hvl,hml]
   rw[hnn]at hld;have hmn:Nat.min es2.length (up -lo)=min es2.length (up -lo):=rfl;simp[execOp,ho,resolve,invoke,builtin,hq,hqe,hyv,Builtin.copy_,run_underlying ht,Builtin.lenOf,aC hs,Builtin.firstCells,hld,s1,goInt,hmn]
 split at hv
 ·rename_i id y' e1;rw[e1]at hx;cases hx with
  | own _ _ h1=>
    split at hv
    ·rename_i x' el' n' es hH;obtain⟨hxe,rfl,hk⟩:=hv;subst hxe;obtain⟨xs,⟨g1,g2⟩,g3,g4⟩:=hst.sat.ok id _ hH;rcases g2 with⟨h,h0⟩|⟨g,cap,cur,h,_⟩
     ·have:es=[]:=qjP h0;subst this;refine nothing none 0 0 h (by simp) ?_;simp only[qlE,Nat.min_zero,qlq,qli,qkF]at hk;rw[same id _ hH]at hk;exact hk
     ·rw[h]at hH hk;refine main id g el' cap 0 es.length es hH (qj5 _) (qjL _) (some ⟨g,0,none⟩) cap (by simpa using h) (λ_=>by simp) ?_;have:es.drop es2.length=es.drop (min es2.length es.length):=by
       by_cases hle:es2.length<=es.length
       ·rw[Nat.min_eq_left hle]
       ·rw[Nat.min_eq_right (by omega),qk3 (by omega),qk3 (by omega)]
      rw[this]at hk;simpa using hk
    ·exact hv.elim
 ·rename_i id y' n' lo up e1;rw[e1]at hx;split at hv
  ·rename_i x' el' n'' es hH;obtain⟨hxe,rfl,rfl,hk⟩:=hv;subst hxe;obtain⟨xs,⟨g1,g2⟩,g3,g4⟩:=hst.sat.ok id _ hH;cases hx with
   | subnil=>
     rcases g2 with⟨_,h0⟩|⟨g,cap,cur,h,_⟩
     ·have:es=[]:=qjP h0;subst this;refine nothing none 0 0 rfl (by simp) ?_;simp only[qkV,Nat.min_zero,qlq,qlt,qli,qkF]at hk;rw[same id _ hH]at hk;exact hk
     ·cases h
   | sub _ b len cap _ _ _ p h1 h2 h3 hm hp=>
     rcases g2 with⟨h,_⟩|⟨g,cap',cur,h,_⟩
     ·cases h
     ·cases h;exact main id b el' cap lo up es hH h1 h2 p _ rfl (λh=>hp (.inl (by omega))) hk
  ·exact hv.elim
 ·exact hv.elim
theorem Q7{t u el:TypeId}{n:Nat}{agg:Bool}{kn:IntKind}{z:List Value}{c:Call}{x y:Operand}{K:D->aa->Prop}(hst:StW E tp H w)(ho:o.op= .call c)(hc:c.callee= .builtin .append)(hat:c.argTypes.toList=[t,u])(hargs:c.args.toList=[x,y])
 (ht:P.underlying t=some (.slice el)) (hu:P.underlying u=some (.int kn)) (hs:cj P el=some n) (hz:dt P el=some z) (hn:0 < n) (hagg:(agg||decide (n=1))=true)
 (hx:R tp (aI E.O tp H w) w (a.eval x) (ev σ x)) (hy:R tp (aI E.O tp H w) w (a.eval y) (ev σ y)) (hv:aP (.appmk el n (P.bytesOf el) agg z x y) o.dst σ H K):cq P o a E tp H w K:=by
 obtain⟨cl,⟨args⟩,⟨ats⟩⟩:=c;simp only at hat hargs hc;subst hat;subst hargs;subst hc;simp only[aP]at hv;split at hv
 ·rename_i e1;rw[e1]at hx;have hxv:=hx.inv_v;split at hv
  ·rename_i t' kc c hdst e2;obtain⟨h0,hb,h63,hk⟩:=hv;have hyv:a.eval y= .int kc c:=by
    rw[ul e2]at hy;exact hy.inv_v
   obtain⟨i,zv,hi,hzv,hzc,hsz,hz1,hz2⟩:=cN hz;have hni:i.size=n:=by
    unfold cj at hs;rw[hi]at hs;simpa using hs
   have hbi:i.bytes=P.bytesOf el:=by simp[Program.bytesOf,hi]
   have hzn:z.length=n:=by omega
   have hzc':zv.cells=z.toArray:=by rw[<-hzc]
   have he0:=PD hzn hagg hz2;obtain⟨m,rfl⟩:∃m:Nat,c=m:=⟨c.toNat,by omega⟩
   rw[qlv]at hk;by_cases hm0:m=0
   ·subst hm0;refine⟨.value (.slice none 0 0), .slice none 0 0, .own t' (.slice none 0 0),_,w,?_, .inl rfl,hst.own t' (some (.row (.slice none 0 0) el n (List.replicate 0 (La agg z)))) (dV w none) (λb hb=>by cases hb) (λr b h1 h2=>by cases h1;simp[Res.blk,Value.ownBlock]at h2) (λm r h1=>?_), .own _ _ rfl,hk _⟩
    ·simp[execOp,ho,resolve,invoke,builtin,hxv,hyv,Builtin.append_,run_underlying ht,run_underlying hu,sizeOf,typeInfo,hi,asInt,asIntOf,IntKind.wrap_i64]
    ·cases h1;exact⟨[],qkR _ _ _ _,by simp,λk y c h=>by simp at h⟩
   ·have hb':m*i.bytes<=140737488355328:=by
     rw[hbi];have:((m*P.bytesOf el:Nat):Int)<=140737488355328:=by push_cast;exact hb
     omega
    have hrun:=Lib.run_append_nil_zeros (P:=P) w t u o.type el i zv kc kn ht hu hi hzv m (by omega) (by omega) (by omega) (by omega);rw[hzc']at hrun;obtain⟨r1,r2,r3,r4⟩:=Fb (tp:=tp) (w:=w) (m:=m) (I:=aI E.O tp H w) hn hzn he0 hz2 hz1;have hge:=grownCap_ge w m 0 el;have hcm:grownCap w m 0 el<=maxLen:=grownCap_le_maxLen w m 0 el (by simp only[maxLen];omega);have hown:(w.drew.alloc (.cells (Builtin.zeroCells z.toArray m++Builtin.zeroCells z.toArray (grownCap w m 0 el -m)) el)).ownsRow 0 el n (.slice (some ⟨w.heap.size,0,none⟩) m (grownCap w m 0 el)) m (Builtin.zeroCells z.toArray m).toList:=by
     refine⟨r2, .inr ⟨w.heap.size,_,_,rfl,qj5 _,heap_alloc_new w.drew _,hge,hcm,?_,?_⟩⟩
     ·simp only[qlR,size_zeroCells,qk4,hzn,<-qkH];congr 1;omega
     ·rw[qlK,<-r2];exact qlp
    refine⟨.value (.slice (some ⟨w.heap.size,0,none⟩) m (grownCap w m 0 el)), .slice (some ⟨w.heap.size,0,none⟩) m (grownCap w m 0 el), .own t' _,_,w.drew.alloc (.cells (Builtin.zeroCells z.toArray m++Builtin.zeroCells z.toArray (grownCap w m 0 el -m)) el),?_, .inl rfl,hst.own t' (some (.row (.slice (some ⟨w.heap.size,0,none⟩) m (grownCap w m 0 el)) el n (List.replicate m (La agg z)))) (row:=none) ⟨⟨rfl,rfl,rfl,by simp,λk hk _=>qlB w.drew _ k hk⟩,qkS _⟩ (λb hb=>by cases hb) (λr b h1 h2=>?_) (λmv r h1=>?_), .own _ _ rfl,hk _⟩
    ·simp[execOp,ho,resolve,invoke,builtin,hxv,hyv,hrun]
    ·cases h1;simp[Res.blk,Value.ownBlock]at h2;exact .inl (by omega)
    ·cases h1;refine⟨_,by rw[qkN];exact hown,r1,λk y c h1 h2=>⟨(r3 k y c h1 h2).1,mv _ _ (r3 k y c h1 h2).2⟩⟩
  ·exact hv.elim
 ·exact hv.elim
def OK{t:Nat}{ty:TypeId}{x:Operand}{s:ByteArray}{K:D->aa->Prop}(hst:StW E tp H w)(ho:o.op= .range ty x)(ht:P.underlying ty=some .string)(hx:a.eval x= .string s)
 (hv:∀b,K (.bptr t b 0) (aj H t (some (.iter b s 0)))):cq P o a E tp H w K:=by
 refine⟨_, .pointer (some ⟨w.heap.size,0,none⟩), .bptr t w.heap.size 0,_,w.alloc (.stringIter s 0),?_, .inl rfl,lc (r':= .iter w.heap.size s 0) hst (λb hb=>by cases hb;rfl) (λm=>?_), .bptr _ _ _,hv _⟩
 ·have hrun:=run_range_string (P:=P) w ty s ht;simp only[execOp,ho,hx,qjR,hrun,qjI,qj0];rfl
 ·exact heap_alloc_new _ _
def Ho(w:World)(b:Nat)(s:ByteArray)(p:Nat):GrB w (w.iterAt b s p) (some b):=by
 refine⟨⟨rfl,rfl,rfl,by rw[Lib.iterAt_size];exact qjL _,λk _ hk=>Lib.iterAt_other w b k s p (λe=>hk (by rw[e]))⟩,qjL _⟩
theorem Q5{x:Operand}{K:D->aa->Prop}(hst:StW E tp H w)(ho:o.op= .next x true)(hx:R tp (aI E.O tp H w) w (a.eval x) (ev σ x))(hv:aP (.snext x) o.dst σ H K):cq P o a E tp H w K:=by
 simp only[aP]at hv;generalize hq:a.eval x=q at hx;split at hv
 ·rename_i id b off e1;rw[e1]at hx;obtain⟨rfl,hv⟩:=hv;cases hx;split at hv
  ·rename_i b' s pos hH;obtain⟨rfl,h1,h2⟩:=hv;have hb:w.heap[b']? =some (.stringIter s pos):=hst.sat.ok id _ hH;by_cases hp:pos < s.size
   ·have hrun:=Lib.run_next_any_at (P:=P) w b' s pos o.type hb hp;have hR:∀ (I:Nat->Prop) (w':World),R tp I w' (.tuple #[.bool true, .int .i64 pos, .int .i32 (Utf8.decode s pos).1]) (.tup [.v (.bool true), .v (.int .i64 pos), .v (.int .i32 (Utf8.decode s pos).1)]):=λI w'=>
     .tup [.bool true, .int .i64 pos, .int .i32 (Utf8.decode s pos).1] _ rfl λk y c h1 h2=>by
      match k with
      | 0=>simp at h1 h2;subst h1;subst h2;exact .bool _
      | 1=>simp at h1 h2;subst h1;subst h2;exact .int _ _
      | 2=>simp at h1 h2;subst h1;subst h2;exact .int _ _
      | k+3=>simp at h1
    refine⟨_,_,_,_,w.iterAt b' s (pos+ (Utf8.decode s pos).2),by simp only[execOp,ho,hq,qjR,hrun,qjI,qj0], .inl rfl,hst.own id (some (.iter b' s (pos+ (Utf8.decode s pos).2))) (Ho w b' s _) (λb hb=>by cases hb;exact⟨_,hH,rfl⟩) (λr b h1 h2=>by cases h1;cases h2;exact .inr ⟨_,hH,rfl⟩) (λm r h1=>?_),hR _ _,h1 hp⟩;cases h1;exact Lib.iterAt_heap w b' s pos _ hb
   ·have hrun:=Lib.run_next_end_at (P:=P) w b' s pos o.type hb hp;refine⟨_,_,_,_,w,by simp only[execOp,ho,hq,qjR,hrun,qjI,qj0], .inl rfl,⟨hst,λy e h=>h⟩, .tup [.bool false] [.v (.bool false)] rfl (λk y c h1 h2=>by
     match k with
     | 0=>simp at h1 h2;subst h1;subst h2;exact .bool _
     | k+1=>simp at h1),h2 hp⟩
  ·exact hv.elim
 ·exact hv.elim
theorem J2{t u el:TypeId}{x:Operand}{K:D->Prop}(hst:StW E tp H w)(ho:o.op= .convert t u x)(h1:P.underlying t=some .string)(h2:P.underlying u=some (.slice el))(h3:P.underlying el=some (.int .u8))
 (hx:R tp (aI E.O tp H w) w (a.eval x) (ev σ x)) {Hr:aa} (hv:ah (.sbytes x) σ Hr K):GoodN P o a E tp H w K:=by
 simp only[ah]at hv;split at hv
 ·rename_i s e1;rw[e1]at hx;obtain⟨hxs,hsz⟩:=hx.inv_str;have hrun:=run_bytes_of_string (P:=P) w t u el s h1 h2 h3;generalize hC:bytesRow s (grownCap w s.size 0 el)=C at hrun;generalize hcap:grownCap w s.size 0 el=cap at hrun hC;have hcm:cap<=maxLen:=by rw[<-hcap];exact grownCap_le_maxLen w _ _ _ hsz
  have hcg:s.size<=cap:=by rw[<-hcap];exact grownCap_ge w _ _ _
  have hgw:GrB w (w.drew.alloc (.cells C el (C.size,C.size+1))) none:=by
   have:=qln w.drew (.cells C el (C.size,C.size+1)) none;exact⟨⟨this.os,this.tape,this.output,this.size,this.block⟩,qkS _⟩
  have hlen:(s.data.toList.map λc=>D.v (.int .u8 c.toNat)).length=s.size:=by
   rw[qka,qjT];rfl
  have hfl:aR (s.data.toList.map λc=>D.v (.int .u8 c.toNat))=s.data.toList.map λc=>D.v (.int .u8 c.toNat):=by
   unfold aR;generalize s.data.toList=l
   induction l with
   | nil=>rfl
   | cons c l ih=>simp only[qj2,qkA,D.cells,ih];rfl
  refine⟨.slice (some ⟨w.heap.size,0,none⟩) s.size cap,_,_,by simp only[execOp,ho,hxs,qjR,hrun,qjI,qj0],hgw,λhst' m=>?_,hv⟩;have hgn:(w.drew.alloc (.cells C el (C.size,C.size+1))).heap[w.heap.size]? =some (.cells C el (C.size,C.size+1)):=heap_alloc_new _ _;have key:∀ (k:Nat) (c:D),(aR (s.data.toList.map λc=>D.v (.int .u8 c.toNat)))[k]? =some c->∃q:UInt8,c= .v (.int .u8 q.toNat)/\C[k]? =some (.int .u8 q.toNat):=by
   intro k c hk;rw[hfl,qjU]at hk;obtain⟨q,hq,rfl⟩:=qjH.1 hk;refine⟨q,rfl,?_⟩;have hks:k < s.data.size:=by
    have h:=(qjA.1 hq).1;rwa [qjT]at h
   have hqq:s.data[k]? =some q:=by rwa [qj6]at hq
   rw[<-hC,bytesRow,qkv (by simpa using hks),Array.getElem?_map,hqq];rfl
  have hmain:R tp (aI E.O tp H (w.drew.alloc (.cells C el (C.size,C.size+1)))) (w.drew.alloc (.cells C el (C.size,C.size+1))) (.slice (some ⟨w.heap.size,0,none⟩) (s.data.toList.map λc=>D.v (.int .u8 c.toNat)).length cap) (.list 1 (s.data.toList.map λc=> .v (.int .u8 c.toNat))):=by
   refine .list w.heap.size 0 cap 1 _ (λk=>C.getD k undef) ⟨by simp,λh=>?_,λh=>?_,λ⟨i,r,h1,h2⟩=>?_⟩ (by rw[hlen];exact hcg) hcm (λh=>absurd rfl h) (λd hd=>?_) (λk c hk=>?_) (λk c hk=>?_) (λk c hk=>?_)
   ·have:=hst.hO _ h;have:=hst.step.size;omega
   ·have:=hst.tpl.1 _ h;omega
   ·have:=(hst.sat.ok i r h1).lt h2;omega
   ·obtain⟨c,_,rfl⟩:=qjN.1 hd;exact⟨rfl,rfl⟩
   all_goals
    obtain⟨q,e2,e3⟩:=key k c hk;have hg:C.getD k undef= .int .u8 q.toNat:=by rw[qj1,e3];rfl
    try dsimp only
    rw[hg]
   ·rw[qki,cell_of_row _ _ k C el _ hgn];exact e3
   ·rfl
   ·rw[e2];exact .int _ _
  rw[hlen]at hmain;exact hmain
 ·exact hv.elim
def E9(s:ByteArray):∀ (bound i:Nat) (acc:Array Value),(∀x∈acc.toList,∃n,x= .int .i32 n)->∀x∈ (Conv.runesFrom s bound i acc).toList,∃n,x= .int .i32 n
 | 0,_,acc,h=>by simpa [Conv.runesFrom]using h
 | bound+1,i,acc,h=>by
   unfold Conv.runesFrom;split
   ·refine E9 s bound _ _ λx hx=>?_
    rw[qlw,qjM,qkL]at hx;rcases hx with hx|rfl
    ·exact h x hx
    ·exact⟨_,rfl⟩
   ·exact h
theorem J1{t u el:TypeId}{x:Operand}{K:D->Prop}(hst:StW E tp H w)(ho:o.op= .convert t u x)(h1:P.underlying t=some .string)(h2:P.underlying u=some (.slice el))(h3:P.underlying el=some (.int .i32))
 (hx:R tp (aI E.O tp H w) w (a.eval x) (ev σ x)) {Hr:aa} (hv:ah (.srunes x) σ Hr K):GoodN P o a E tp H w K:=by
 simp only[ah]at hv;split at hv
 ·rename_i s e1;rw[e1]at hx;obtain⟨hxs,hsz⟩:=hx.inv_str;have hrs:(Conv.runesFrom s s.size 0 #[]).size<=s.size:=by have:=size_runesFrom s s.size 0 #[];simpa using this
  have hrb:=hv.1;replace hv:=hv.2;have hint:∀x∈ (Conv.runesFrom s s.size 0 #[]).toList,∃n,x= .int .i32 n:=E9 s _ _ _ (λx h=>by simp at h);have hrun:=run_runes_of_string (P:=P) w t u el s h1 h2 h3 (qj8 (qj8 hrs hrb) (by decide));generalize hQ:Conv.runesFrom s s.size 0 #[]=q at hrun hrs hint hv;generalize hcap:grownCap w q.size 0 el=cap at hrun;have hcm:cap<=maxLen:=by rw[<-hcap];exact grownCap_le_maxLen w _ _ _ (qj8 hrs hsz)
  have hcg:q.size<=cap:=by rw[<-hcap];exact grownCap_ge w _ _ _
  generalize hC:q++Array.replicate (cap -q.size) (.int .i32 0)=C at hrun;have hgw:GrB w (w.drew.alloc (.cells C el)) none:=by
   have:=qln w.drew (.cells C el) none;exact⟨⟨this.os,this.tape,this.output,this.size,this.block⟩,qkS _⟩
  have hlen:(q.toList.map D.v).length=q.size:=by
   rw[qka,qjT]
  have hfl:aR (q.toList.map D.v)=q.toList.map D.v:=by
   unfold aR;generalize q.toList=l
   induction l with
   | nil=>rfl
   | cons c l ih=>simp only[qj2,qkA,D.cells,ih];rfl
  refine⟨.slice (some ⟨w.heap.size,0,none⟩) q.size cap,_,_,by simp only[execOp,ho,hxs,qjR,hrun,qjI,qj0],hgw,λhst' m=>?_,hv⟩;have hgn:(w.drew.alloc (.cells C el)).heap[w.heap.size]? =some (.cells C el (0,0)):=heap_alloc_new _ _;have key:∀ (k:Nat) (c:D),(aR (q.toList.map D.v))[k]? =some c->∃n:Int,c= .v (.int .i32 n)/\C[k]? =some (.int .i32 n):=by
   intro k c hk;rw[hfl,qjU]at hk;obtain⟨y,hy,rfl⟩:=qjH.1 hk;obtain⟨n,rfl⟩:=hint y (qjD hy);refine⟨n,rfl,?_⟩;have hks:k < q.size:=by
    have h:=(qjA.1 hy).1;rwa [qjT]at h
   rw[<-hC,qkv hks];rwa [qj6]at hy
  have hmain:R tp (aI E.O tp H (w.drew.alloc (.cells C el))) (w.drew.alloc (.cells C el)) (.slice (some ⟨w.heap.size,0,none⟩) (q.toList.map D.v).length cap) (.list 1 (q.toList.map D.v)):=by
   refine .list w.heap.size 0 cap 1 _ (λk=>C.getD k undef) ⟨by simp,λh=>?_,λh=>?_,λ⟨i,r,h1,h2⟩=>?_⟩ (by rw[hlen];exact hcg) hcm (λh=>absurd rfl h) (λd hd=>?_) (λk c hk=>?_) (λk c hk=>?_) (λk c hk=>?_)
   ·have:=hst.hO _ h;have:=hst.step.size;omega
   ·have:=hst.tpl.1 _ h;omega
   ·have:=(hst.sat.ok i r h1).lt h2;omega
   ·obtain⟨c,_,rfl⟩:=qjN.1 hd;exact⟨rfl,rfl⟩
   all_goals
    obtain⟨q,e2,e3⟩:=key k c hk;have hg:C.getD k undef= .int .i32 q:=by rw[qj1,e3];rfl
    try dsimp only
    rw[hg]
   ·rw[qki,cell_of_row _ _ k C el _ hgn];exact e3
   ·rfl
   ·rw[e2];exact .int _ _
  rw[hlen]at hmain;exact hmain
 ·exact hv.elim
end
end Go.Gv
