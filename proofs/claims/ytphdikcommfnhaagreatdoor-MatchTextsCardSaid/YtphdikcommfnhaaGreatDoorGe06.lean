/- A part of the framework and of the walks: S6. -/
import Derived.Lib.AppendZeros
import Derived.Lib.OthersKept
import Derived.Laws.IdiomStrings
import Derived.Test.YtphdikcommfnhaaGreatDoorGe05
set_option linter.unusedSimpArgs false
set_option linter.unusedVariables false
set_option linter.unusedSectionVars false

namespace Go.Gv
def dL(P:Program)(o:Oper)(a:Act)(E:zd)(tp:Nat->Prop)(H:ab)(w:World)(K:D->ab->Prop):Prop:=
 ∃nx x d H' w',(execOp a.eval o).run P w= .ok nx w'/\(nx= .value x\/(nx= .skip/\x=Go.undef))/\
  (StW E tp H' w'/\∀y e,R tp (aN E.O tp H w) w y e->R tp (aN E.O tp H' w') w' y e)/\R tp (aN E.O tp H' w') w' x d/\K d H'
section
variable {P:Program}{o:Oper}{a:Act}{E:zd}{tp:Nat->Prop}{H:ab}{w:World}{σ:Sg}
theorem GoodN.og{Kd:D->Prop}{K:D->ab->Prop}(hst:StW E tp H w)(h:GoodN P o a E tp H w Kd)(hk:∀d,Kd d->K d H):dL P o a E tp H w K:=by
 obtain⟨x,d,w',h1,h2,h3,h4⟩:=h
 have hm:=hst.grow h2
 exact⟨_,x,d,H,w',h1, .inl rfl,hm,h3 hm.1 hm.2,hk d h4⟩
theorem su{t:Nat}{ob:Obj}{r':Res}(hst:StW E tp H w)(hb:∀b,r'.blk=some b->b=w.heap.size)
 (hok:(∀x d,R tp (aN E.O tp H w) w x d->R tp (aN E.O tp (ah H t (some r')) (w.alloc ob)) (w.alloc ob) x d)->ResOk (R tp (aN E.O tp (ah H t (some r')) (w.alloc ob)) (w.alloc ob)) (w.alloc ob) r'):
 StW E tp (ah H t (some r')) (w.alloc ob)/\∀x d,R tp (aN E.O tp H w) w x d->R tp (aN E.O tp (ah H t (some r')) (w.alloc ob)) (w.alloc ob) x d:=
 hst.own t (some r') (GrB.alloc w ob none) (fun b hb=>by cases hb) (fun r b h1 h2=>by cases h1;exact .inl (by rw[hb b h2];exact qxI _)) (fun m r h1=>by cases h1;exact hok m)
theorem qbW{el t:Nat}{z:List Value}{K:D->ab->Prop}(hst:StW E tp H w)(ho:o.op= .alloc el)(hz:eK P el=some z)(hv:∀b,K (.bptr t b 0) (ah H t (some (.box b (z.map vS))))):dL P o a E tp H w K:=by
 obtain⟨i,zv,hi,hzv,hzc,hsz,hz1,hz2⟩:=dO hz
 refine⟨_, .pointer (some ⟨w.heap.size,0,none⟩), .bptr t w.heap.size 0,_,w.alloc (.cells zv.cells el),?_, .inl rfl,su (r':= .box w.heap.size (z.map vS)) hst (fun b hb=>by cases hb;rfl) (fun m=>?_), .bptr _ _ _,hv _⟩
 ·simp[execOp,ho,Instr.alloc,zeroValue,typeInfo,hi,hzv,newVar,newRow]
 ·exact⟨zv.cells,el,heap_alloc_new _ _,by rw[<-qx2,hzc];simp,by rw[hzc];exact jV hz2 hz1⟩
theorem qjE{el t:Nat}{x:Operand}{K:D->ab->Prop}(hst:StW E tp H w)(ho:o.op= .box el x)(hx:R tp (aN E.O tp H w) w (a.eval x) (ev σ x))(hkn:(ev σ x).kn=true)(hv:∀b,K (.bptr t b 0) (ah H t (some (.box b (ev σ x).cells)))):dL P o a E tp H w K:=by
 refine⟨_, .pointer (some ⟨w.heap.size,0,none⟩), .bptr t w.heap.size 0,_,w.alloc (.cells (a.eval x).cells el),?_, .inl rfl,su (r':= .box w.heap.size (ev σ x).cells) hst (fun b hb=>by cases hb;rfl) (fun m=>?_), .bptr _ _ _,hv _⟩
 ·simp[execOp,ho,Instr.box,newVar,newRow]
 ·obtain⟨c1,c2⟩:=(m _ _ hx).cells hkn
  exact⟨(a.eval x).cells,el,heap_alloc_new _ _,by rw[<-c1];simp,c2⟩
theorem qjC{el t:Nat}{x:Operand}{K:D->ab->Prop}(hst:StW E tp H w)(ho:o.op= .box el x)(hx:R tp (aN E.O tp H w) w (a.eval x) (ev σ x))(hkn:(ev σ x).kn=true)(hv:∀b,K (.bptr t b 0) (ah H t (some (.tbox el b (ev σ x).cells)))):dL P o a E tp H w K:=by
 refine⟨_, .pointer (some ⟨w.heap.size,0,none⟩), .bptr t w.heap.size 0,_,w.alloc (.cells (a.eval x).cells el),?_, .inl rfl,su (r':= .tbox el w.heap.size (ev σ x).cells) hst (fun b hb=>by cases hb;rfl) (fun m=>?_), .bptr _ _ _,hv _⟩
 ·simp[execOp,ho,Instr.box,newVar,newRow]
 ·obtain⟨c1,c2⟩:=(m _ _ hx).cells hkn
  exact⟨(a.eval x).cells,heap_alloc_new _ _,by rw[<-c1];simp,c2⟩
theorem YM{el n t:Nat}{ty:TypeId}{parts:Array (Nat×Operand)}{z:List Value}{K:D->ab->Prop}(hst:StW E tp H w)(ho:o.op= .buildSlice ty 0 parts)(ht:P.underlying ty=some (.slice el))(hs:cQ P el=some n)(hz:eK P el=some z)(hps:wn parts 0=some [])
 (hv:∀x,K (.own t x) (ah H t (some (.row x el n [])))):dL P o a E tp H w K:=by
 have hp:parts= #[]:=by
  unfold wn at hps
  split at hps
  ·rename_i h
   obtain⟨l⟩:=parts
   simp at h
   simp[h]
  ·cases hps
 obtain⟨i,zv,hi,hzv,hzc,hsz,hz1,hz2⟩:=dO hz
 have hown:∀ (w':World) (b:Nat),w'.heap[b]? =some (.cells #[] el (0,0))->w'.ownsRow 0 el n (.slice (some ⟨b,0,none⟩) 0 0) 0 []:=fun w' b hb=>
  ⟨by simp, .inr ⟨b,0, #[],rfl,qx3 _,hb,qxI _,qx3 _,by simp,by simp⟩⟩
 refine⟨_, .slice (some ⟨w.heap.size,0,none⟩) 0 0, .own t (.slice (some ⟨w.heap.size,0,none⟩) 0 0),_,w.alloc (.cells #[] el),?_, .inl rfl,su (r':= .row (.slice (some ⟨w.heap.size,0,none⟩) 0 0) el n []) hst (fun b hb=>by cases hb;rfl) (fun m=>?_), .own _ _ rfl,hv _⟩
 ·simp[execOp,ho,hp,Instr.buildSlice,run_underlying ht,aO hs,Instr.fill,newRow,Array.range_zero']
 ·exact⟨[],hown _ _ (heap_alloc_new _ _),by simp,fun k y c h=>by simp at h⟩
theorem YN{ty el:TypeId}{n len t:Nat}{parts:Array (Nat×Operand)}{ps:List Operand}{z0:List Value}{K:D->ab->Prop}(hst:StW E tp H w)(ho:o.op= .buildSlice ty len parts)(ht:P.underlying ty=some (.slice el))(hs:cQ P el=some n)
 (hz:eK P el=some z0) (hps:wn parts len=some ps) (hlim:len*n<=2^24) (hn:0 < n) (hlen0:len≠0) (hr:∀x∈ps,R tp (aN E.O tp H w) w (a.eval x) (ev σ x)) (hpv:lG n (ps.map (ev σ)))
 (hv:∀x,K (.own t x) (ah H t (some (.row x el n (ps.map (ev σ)))))):dL P o a E tp H w K:=by
 unfold wn at hps
 split at hps
 ·rename_i hidx
  cases hps
  have hlen:parts.toList.length=len:=by
   have:=congrArg List.length hidx
   simpa using this
  obtain⟨i,zv,hi,hzv,hzc,hsz,hz1,hz2⟩:=dO hz
  have hall:=xG hpv
  have hvs:∀v∈ (parts.toList.map (·.2)).map a.eval,v.cells.size=n:=by
   intro v hv'
   obtain⟨x,hx,rfl⟩:=qxL.1 hv'
   have h1:=hall (ev σ x) (qxL.2 ⟨x,hx,rfl⟩)
   have:=((hr x hx).cells h1.1).1
   rw[<-h1.2,<-this];simp
  have hz0:z0.length=n:=by
   unfold cQ at hs
   rw[hi]at hs
   simp at hs
   omega
  have hzv0:¬ (len*n=0):=by
   intro h
   rcases Nat.mul_eq_zero.1 h with h|h <;> omega
  obtain⟨cells',r1,r2,r3,r4⟩:=KA (n:=n) ((parts.toList.map (·.2)).map a.eval) 0 ((Array.range (len*n)).map (zv.cells[· % zv.cells.size]!)) hvs (by simp[hlen])
  have hparts:(List.range' 0 ((parts.toList.map (·.2)).map a.eval).length).zip ((parts.toList.map (·.2)).map a.eval)=parts.toList.map fun p=>(p.1,a.eval p.2):=by
   have e1:List.range' 0 ((parts.toList.map (·.2)).map a.eval).length=parts.toList.map (·.1):=by
    rw[hidx,qzF]
    simp[hlen]
   rw[e1,List.map_map,List.zip_map', ]
   rfl
  rw[hparts]at r1
  have hrun:(Instr.buildSlice ty len (parts.map fun(i,x)=>(i,a.eval x))).run P w= .ok (.slice (some ⟨w.heap.size,0,none⟩) len len) (w.alloc (.cells cells' el)):=by
   have hl:¬ (16777216 < len*n):=by omega
   have r1':Instr.fill (fun i=>some (i*n,n)) ((Array.range (len*n)).map (zv.cells[· % zv.cells.size]!)) (parts.toList.map fun p=>(p.1,a.eval p.2))=some cells':=r1
   simp[Instr.buildSlice,run_underlying ht,aO hs,hl,hzv0,zeroValue,typeInfo,hi,hzv,r1',newRow]
  have hsz':cells'.size=len*n:=by rw[r2];simp
  have hnn:∀d∈ (parts.toList.map (·.2)).map (ev σ),d.kn=true/\d.cells.length=n:=hall
  have hlen2:((parts.toList.map (·.2)).map (ev σ)).length=len:=by simp[hlen]
  refine⟨_, .slice (some ⟨w.heap.size,0,none⟩) len len, .own t (.slice (some ⟨w.heap.size,0,none⟩) len len),_,w.alloc (.cells cells' el),by simp[execOp,ho,hrun], .inl rfl,
   su (r':= .row (.slice (some ⟨w.heap.size,0,none⟩) len len) el n ((parts.toList.map (·.2)).map (ev σ))) hst (fun b hb=>by cases hb;rfl) (fun m=>?_), .own _ _ rfl,hv _⟩
  refine⟨cells'.toList,⟨?_, .inr ⟨w.heap.size,len,cells',by rw[hlen2],qx3 _,heap_alloc_new _ _,by rw[hlen2];exact qxI _,by have:len<=len*n:=qzP _ hn;simp only[maxLen];omega,hsz',?_⟩⟩,hnn,?_⟩
  ·rw[hlen2];simpa using hsz'
  ·rw[hlen2,<-hsz',qze (by simp)]
  ·intro k y c hy hk
   obtain⟨d,hd,hdc,hmod,he⟩:=xY hn (fun d hd=>(hnn d hd).2) hk
   rw[qxQ]at hd
   obtain⟨x,hx,rfl⟩:=aF hd
   have hxm:x∈parts.toList.map (·.2):=qxC hx
   have hRx:=m _ _ (hr x hxm)
   have hkx:=hnn (ev σ x) (qxL.2 ⟨x,hxm,rfl⟩)
   obtain⟨c1,c2⟩:=hRx.cells hkx.1
   have hvx:((parts.toList.map (·.2)).map a.eval)[k/n]? =some (a.eval x):=by rw[qxQ,hx];rfl
   have:=r4 (k/n) (k % n) _ hvx hmod
   rw[qyo,<-he]at this
   have hy':cells'[k]? =some y:=by simpa using hy
   rw[hy']at this
   exact c2 (k % n) y c (by simpa using this.symm) hdc
 ·cases hps
theorem Mi{z:List Value}(hz:0 < z.length)(N k:Nat)(hk:k < N):(madeCells z.toArray N)[k]? =z[k % z.length]?:=by
 have hm:k % z.length < z.length:=qyX _ hz
 simp[madeCells,hk,hm]
theorem UB{el n t:Nat}{ty:TypeId}{agg:Bool}{z:List Value}{lo co:Operand}{kl kc:IntKind}{l c:Int}{K:D->ab->Prop}(hst:StW E tp H w)(ho:o.op= .makeSlice ty lo co)(ht:P.underlying ty=some (.slice el))(hs:cQ P el=some n)(hz:eK P el=some z)
 (hn:0 < n) (hagg:(agg||n=1)=true) (hl:a.eval lo= .int kl l) (hc:a.eval co= .int kc c) (h0:0<=l) (hlc:l<=c) (hb:(P.bytesOf el:Int) *c<=140737488355328) (h63:c<=140737488355328)
 (hv:∀x,K (.own t x) (ah H t (some (.row x el n (List.replicate l.toNat (if agg then .agg (z.map vS)else vS (z.headD (.bool false)))))))):dL P o a E tp H w K:=by
 obtain⟨i,zv,hi,hzv,hzc,hsz,hz1,hz2⟩:=dO hz
 have hbi:i.bytes=P.bytesOf el:=by simp[Program.bytesOf,hi]
 have hni:i.size=n:=by
  unfold cQ at hs
  rw[hi]at hs
  simpa using hs
 have hzn:z.length=n:=by omega
 have hrun:=run_make (P:=P) w ty el i zv ht hi hzv kl kc l c h0 hlc (by rw[hbi];omega) (by omega)
 have hzc':zv.cells=z.toArray:=by rw[<-hzc]
 generalize hE:(if agg then D.agg (z.map vS)else vS (z.headD (.bool false)))=e0 at hv
 have he0:e0.kn=true/\e0.cells=z.map vS:=by
  rw[<-hE]
  cases agg with
  | true=>exact⟨rfl,rfl⟩
  | false=>
    have:n=1:=by simpa using hagg
    match z,hzn with
    | [y],_=>
      have hz2':=hz2
      cases y <;> simp at hz2' <;> simp[vS,D.kn,D.cells]
    | [],h=>simp at h;omega
    | _::_::_,h=>simp at h;omega
 have hes:∀d∈List.replicate l.toNat e0,d.kn=true/\d.cells.length=n:=fun d hd=>by
  have:=qza hd
  subst this
  exact⟨he0.1,by rw[he0.2];simp[hzn]⟩
 refine⟨_, .slice (some ⟨w.heap.size,0,none⟩) l.toNat c.toNat, .own t (.slice (some ⟨w.heap.size,0,none⟩) l.toNat c.toNat),_,w.alloc (.cells (madeCells zv.cells (c.toNat*i.size)) el),?_, .inl rfl,
  su (r':= .row (.slice (some ⟨w.heap.size,0,none⟩) l.toNat c.toNat) el n (List.replicate l.toNat e0)) hst (fun b hb=>by cases hb;rfl) (fun m=>?_), .own _ _ rfl,hv _⟩
 ·simp only[execOp,ho,hl,hc,qxV,hrun,qxM,qx9]
 ·rw[hni,hzc']
  refine⟨(madeCells z.toArray (c.toNat*n)).toList.take (l.toNat*n),⟨?_, .inr ⟨w.heap.size,c.toNat,madeCells z.toArray (c.toNat*n),by simp,qx3 _,heap_alloc_new _ _,by simp;omega,by simp only[maxLen];omega,by simp[madeCells],by simp⟩⟩,hes,?_⟩
  ·simp[madeCells]
   rw[show min l.toNat c.toNat=l.toNat by omega]
  ·intro k y c' hy hc'
   obtain⟨d,hd,hdc,hmod,he⟩:=xY hn (fun d hd=>(hes d hd).2) hc'
   have hd':=qza (qxC hd)
   subst hd'
   rw[he0.2]at hdc
   rw[qxS]at hy
   split at hy
   ·rename_i hlt
    have hle:l.toNat*n<=c.toNat*n:=qya n (by omega)
    rw[qx6,Mi (by omega) _ k (by omega),hzn]at hy
    exact jV hz2 hz1 (k % n) y c' hy hdc
   ·cases hy
theorem qbS{t:TypeId}{sz:Nat}{x y:Operand}{K:D->ab->Prop}(hst:StW E tp H w)(ho:o.op= .store t x y)(hs:cQ P t=some sz)
 (hx:R tp (aN E.O tp H w) w (a.eval x) (ev σ x)) (hy:R tp (aN E.O tp H w) w (a.eval y) (ev σ y)) {rt:Option Nat} (hv:bz (.store rt sz x y) o.dst σ H K):dL P o a E tp H w K:=by
 simp only[bz]at hv
 obtain⟨hkn,hlen,hv⟩:=hv
 obtain⟨c1,c2⟩:=hy.cells hkn
 have hsz:(a.eval y).cells.size=sz:=by rw[<-hlen,<-c1];simp
 have hone:∀q∈ (a.eval y).cells.toList,q.oneCell'=true:=fun q hq=>by
  obtain⟨k,hk⟩:=qx5.1 hq
  have hlt:k < (ev σ y).cells.length:=by rw[<-c1];exact(qxz.1 hk).1
  exact(c2 k q _ hk (qxA hlt)).1
 generalize hq:a.eval x=q at hx
 split at hv
 ·rename_i id b off e1
  rw[e1]at hx
  cases hx
  split at hv
  ·rename_i b' cells hH
   obtain⟨rfl,hfit,hk⟩:=hv
   obtain⟨xs,el,g1,g2,g3⟩:=hst.sat.ok id _ hH
   have hrun:=DZ (P:=P) hs hsz (b:=b') (off:=off) g1 (by omega) hone
   have hgh:=setRow_heap w b' xs (xs.toList.take off++ (a.eval y).cells.toList++xs.toList.drop (off+ (a.eval y).cells.toList.length)).toArray el (0,0) g1
   refine⟨.skip,Go.undef, .undef,_,w.setRow b' (xs.toList.take off++ (a.eval y).cells.toList++xs.toList.drop (off+ (a.eval y).cells.toList.length)).toArray,?_, .inr ⟨rfl,rfl⟩,hst.own id (some (.box b' (setAt cells off (ev σ y).cells))) (nF w b' _) (fun b hb=>by cases hb;exact⟨_,hH,rfl⟩) (fun r b h1 h2=>by cases h1;cases h2;exact .inr ⟨_,hH,rfl⟩) (fun m r h1=>?_), .undef,hk⟩
   ·simp[execOp,ho,hq,Instr.storeAt,Instr.sureAddr,hrun]
   ·cases h1
    refine⟨_,el,hgh,?_,?_⟩
    ·rw[mU (by omega)]
     simp
     omega
    ·refine sf (by simpa using g2) (fun k y c h1 h2=>⟨(g3 k y c h1 h2).1,m _ _ (g3 k y c h1 h2).2⟩) c1 (fun k y c h1 h2=>⟨(c2 k y c h1 h2).1,m _ _ (c2 k y c h1 h2).2⟩) (by omega)
  ·exact hv.elim
 ·rename_i id y' n i off e1
  rw[e1]at hx
  cases hx with
  | eptr _ b len cap _ _ _=>
    split at hv
    ·rename_i x' el n' es hH
     obtain⟨rfl,rfl,hn0,hfit,hi,hk⟩:=hv
     obtain⟨xs,⟨g1,g2⟩,g3,g4⟩:=hst.sat.ok id _ hH
     have hd:es[i]? =some es[i]:=by simp[hi]
     have hk:=hk _ hd
     have hdn:=(g3 _ (qxC hd)).2
     generalize hE:(if off=0/\sz=n' then ev σ y else D.agg (setAt es[i].cells off (ev σ y).cells))=e0 at hk
     have he0:e0.kn=true/\e0.cells=setAt es[i].cells off (ev σ y).cells:=by
      rw[<-hE]
      split
      ·rename_i h
       refine⟨hkn,?_⟩
       have h1:off=0:=h.1
       have h2:(ev σ y).cells.length=es[i].cells.length:=by omega
       simp[setAt,h1,h2]
      ·exact⟨rfl,rfl⟩
     rcases g2 with⟨h,_⟩|⟨g,cap',cur,hg,_,g5,g6,g7,g8,g9⟩
     ·cases h
     ·cases hg
      have hle:(i+1) *n'<=cap*n':=qya n' (by omega)
      rw[qyj]at hle
      have hrun:=DZ (P:=P) hs hsz (b:=b) (off:=i*n'+off) g5 (by omega) hone
      have hgh:=setRow_heap w b cur (cur.toList.take (i*n'+off) ++ (a.eval y).cells.toList++cur.toList.drop (i*n'+off+ (a.eval y).cells.toList.length)).toArray el (0,0) g5
      have hfl:=aP (es:=es) (fun d hd=>(g3 d hd).2)
      have hle2:(i+1) *n'<=es.length*n':=qya n' hi
      rw[qyj]at hle2
      refine⟨.skip,Go.undef, .undef,_,w.setRow b (cur.toList.take (i*n'+off) ++ (a.eval y).cells.toList++cur.toList.drop (i*n'+off+ (a.eval y).cells.toList.length)).toArray,?_, .inr ⟨rfl,rfl⟩,
       hst.own id (some (.row (.slice (some ⟨b,0,none⟩) es.length cap) el n' (es.set i e0))) (nF w b _) (fun q hq=>by cases hq;exact⟨_,hH,rfl⟩) (fun r q h1 h2=>by cases h1;cases h2;exact .inr ⟨_,hH,rfl⟩) (fun m r h1=>?_), .undef,hk⟩
      ·simp[execOp,ho,hq,Instr.storeAt,Instr.sureAddr,hrun]
      ·cases h1
       have hclen:(a.eval y).cells.toList.length=sz:=by simpa using hsz
       have hxs:xs.length=(aW es).length:=by rw[g1,hfl]
       have htk:(cur.toList.take (i*n'+off) ++ (a.eval y).cells.toList++cur.toList.drop (i*n'+off+ (a.eval y).cells.toList.length)).take (es.length*n')=
        xs.take (i*n'+off) ++ (a.eval y).cells.toList++xs.drop (i*n'+off+ (a.eval y).cells.toList.length):=by
        apply qyw
        intro k
        rw[jz (by omega),qxS,jz (by simp;omega),hclen]
        by_cases h1:k < es.length*n'
        ·rw[if_pos h1]
         by_cases h2:i*n'+off<=k/\k < i*n'+off+sz
         ·rw[if_pos h2,if_pos h2]
         ·rw[if_neg h2,if_neg h2,<-g9,qxS,if_pos h1]
        ·rw[if_neg h1,if_neg (by omega)]
         rw[qx7 (by rw[g1];omega)]
       have hnl:(xs.take (i*n'+off) ++ (a.eval y).cells.toList++xs.drop (i*n'+off+ (a.eval y).cells.toList.length)).length=es.length*n':=by
        simp only[qxX,qx4,qyx,hclen,g1]
        omega
       have hml:(cur.toList.take (i*n'+off) ++ (a.eval y).cells.toList++cur.toList.drop (i*n'+off+ (a.eval y).cells.toList.length)).toArray.size=cap*n':=by
        simp only[qzg,qxX,qx4,qyx,hclen,qx2,g8]
        omega
       have hfin:i*n'+off+ (ev σ y).cells.length<=(aW es).length:=by omega
       refine⟨xs.take (i*n'+off) ++ (a.eval y).cells.toList++xs.drop (i*n'+off+ (a.eval y).cells.toList.length),⟨by rw[qzT];exact hnl, .inr ⟨b,cap,_,by rw[qzT],qx3 _,hgh,by simpa using g6,g7,hml,by rw[qzT];exact htk⟩⟩,fun d hd=>?_,?_⟩
       ·rcases qyA hd with hd|rfl
        ·exact g3 d hd
        ·exact⟨he0.1,by rw[he0.2,mU (by omega)];exact hdn⟩
       ·rw[qcR hn0 (fun d hd=>(g3 d hd).2) hd he0.2 (by omega)]
        exact sf hxs (fun k y c h1 h2=>⟨(g4 k y c h1 h2).1,m _ _ (g4 k y c h1 h2).2⟩) c1 (fun k y c h1 h2=>⟨(c2 k y c h1 h2).1,m _ _ (c2 k y c h1 h2).2⟩) hfin
    ·exact hv.elim
 ·exact hv.elim
theorem QI{n:Nat}{d:D}{x:Value}{K:List D->Prop}(hst:StW E tp H w)(hx:R tp (aN E.O tp H w) w x d)(hn:0 < n)(hv:mT n d H K):
 ∃es,K es/\(∀d∈es,d.kn=true/\d.cells.length=n)/\∃ (ao:Option Addr) (c:Nat) (news:List Value),x= .slice ao es.length c/\(ao=none->es.length=0)/\news.length=es.length*n/\
  (∀a,ao=some a->∀j u,news[j]? =some u->w.cell? (a.add j)=some u)/\(∀u∈news,u.oneCell'=true)/\bB (R tp (aN E.O tp H w) w) news (aW es):=by
 unfold mT at hv
 split at hv
 ·rename_i n' es
  obtain⟨rfl,hk⟩:=hv
  cases hx with
  | nolist ao cap _=>exact⟨[],hk,by simp,ao,cap, [],rfl,fun _=>rfl,by simp,fun _ _ j u h=>by simp at h,by simp,fun k y c h=>by simp at h⟩
  | list b off cap _ _ f hI hc hm _ hes hcell hone hr=>
    have hfl:=aP (es:=es) (fun d hd=>(hes d hd).2)
    have hc':∀k,k < es.length*n'->∃c,(aW es)[k]? =some c:=fun k hk=>⟨(aW es)[k]'(by omega),qxA (by omega)⟩
    refine⟨es,hk,hes,some ⟨b,off,none⟩,cap,(List.range (es.length*n')).map f,rfl,(fun h=>by cases h),by simp,fun a ha j u hu=>?_,fun u hu=>?_,fun k y c hy hc=>?_⟩
    ·cases ha
     rw[jU]
     rw[qxQ]at hu
     obtain⟨z,hz,rfl⟩:=aF hu
     have hj:j < es.length*n':=by simpa using (qxz.1 hz).1
     rw[qyG hj]at hz
     cases hz
     obtain⟨c,hc2⟩:=hc' j hj
     exact hcell j c hc2
    ·obtain⟨j,hj,rfl⟩:=qxL.1 hu
     obtain⟨c,hc2⟩:=hc' j (by simpa using hj)
     exact hone j c hc2
    ·rw[qxQ]at hy
     obtain⟨z,hz,rfl⟩:=aF hy
     have hj:k < es.length*n':=by simpa using (qxz.1 hz).1
     rw[qyG hj]at hz
     cases hz
     exact⟨hone k c hc,hr k c hc⟩
 ·rename_i id y
  cases hx with
  | own _ _ h1=>
    split at hv
    ·rename_i x' el n' es hH
     obtain⟨rfl,rfl,hk⟩:=hv
     obtain⟨xs,hown,g3,g4⟩:=hst.sat.ok id _ hH
     have hone:∀u∈xs,u.oneCell'=true:=fun u hu=>by
      obtain⟨k,hk'⟩:=qx5.1 hu
      have hfl:=aP (es:=es) (fun d hd=>(g3 d hd).2)
      have hlt:k < (aW es).length:=by rw[hfl,<-hown.1];exact(qxz.1 hk').1
      exact(g4 k u _ hk' (qxA hlt)).1
     have hown2:=hown
     obtain⟨g1,g2⟩:=hown
     rcases g2 with⟨rfl,h⟩|⟨g,cap,cur,rfl,_⟩
     ·have:es=[]:=qxP h
      subst this
      exact⟨[],hk,by simp,none,0, [],rfl,fun _=>rfl,by simp,fun _ _ j u h=>by simp at h,by simp,fun k y c h=>by simp at h⟩
     ·refine⟨es,hk,g3,some ⟨g,0,none⟩,cap,xs,rfl,(fun h=>by cases h),g1,fun a ha j u hu=>?_,hone,g4⟩
      cases ha
      exact hown2.cells rfl j u hu
    ·exact hv.elim
 ·have:=hx.inv_v
  subst this
  exact⟨[],hv,by simp,none,0, [],rfl,fun _=>rfl,by simp,fun _ _ j u h=>by simp at h,by simp,fun k y c h=>by simp at h⟩
 ·rename_i id y n' lo hi
  split at hv
  ·rename_i x' el n'' es hH
   obtain⟨hxe,rfl,rfl,hk⟩:=hv
   subst hxe
   obtain⟨xs,hown,g3,g4⟩:=hst.sat.ok id _ hH
   have hfl:=aP (es:=es) (fun d hd=>(g3 d hd).2)
   obtain⟨g1,g2⟩:=hown
   cases hx with
   | subnil=>exact⟨_,hk,by simp,none,0, [],by simp,fun _=>by simp,by simp,fun _ _ j u h=>by simp at h,by simp,fun k y c h=>by simp at h⟩
   | sub _ b len cap _ _ _ p h1 h2 h3 hm hp=>
     rcases g2 with⟨h,_⟩|⟨g,cap',cur,h,_,g5,g6,g7,g8,g9⟩
     ·cases h
     ·cases h
      have hcell:=(show w.ownsRow 0 el n'' (.slice (some ⟨b,0,none⟩) es.length cap) es.length xs from⟨g1, .inr ⟨b,cap,cur,rfl,qx3 _,g5,g6,g7,g8,g9⟩⟩).cells (g:=b) rfl
      have hlen:((es.take hi).drop lo).length=hi -lo:=by simp;omega
      have hmul:(hi -lo) *n''+lo*n''=hi*n'':=by rw[<-qyW];congr 1;omega
      have hmul2:hi*n''<=es.length*n'':=qya n'' h2
      have hflat:∀ (k:Nat) (c:D),(aW ((es.take hi).drop lo))[k]? =some c->(aW es)[lo*n''+k]? =some c:=by
       intro k c hk
       rw[Nj (n:=n'') lo (fun d hd=>(g3 d (qxW hd)).2)]at hk
       exact lp hk
      have hone:∀ (k:Nat) (u:Value),xs[k]? =some u->u.oneCell'=true:=fun k u hu=>by
       have hlt:k < (aW es).length:=by rw[hfl,<-g1];exact(qxz.1 hu).1
       exact(g4 k u _ hu (qxA hlt)).1
      refine⟨_,hk,fun d hd=>g3 d (qxW (qyt hd)),p,cap -lo,(xs.drop (lo*n'')).take ((hi -lo) *n''),by rw[hlen],fun hpn=>?_,?_,fun a ha j u hu=>?_,fun u hu=>?_,fun k y c hy hc=>?_⟩
      ·rw[hlen]
       by_cases hlt:lo < cap
       ·have:=hp (.inl hlt);rw[hpn]at this;cases this
       ·omega
      ·rw[hlen,qx4,qyx,g1];omega
      ·rw[qxS]at hu
       split at hu
       ·rename_i hj
        rw[qyg]at hu
        have hlt:lo < hi:=by
         rcases Nat.lt_or_ge lo hi with h|h
         ·exact h
         ·rw[Nat.sub_eq_zero_of_le h,qz9]at hj;omega
        have:=hp (.inl (by omega))
        rw[this]at ha
        cases ha
        have hc:=hcell _ u hu
        rw[jU]at hc ⊢
        simpa using hc
       ·cases hu
      ·obtain⟨j,hj⟩:=qx5.1 (qyt (qxW hu))
       exact hone j u hj
      ·rw[qxS]at hy
       split at hy
       ·rw[qyg]at hy
        exact g4 _ y c hy (hflat k c hc)
       ·cases hy
  ·exact hv.elim
 ·exact hv.elim
theorem Yj{n:Nat}{d:D}{x:Value}{tx:TypeId}{K:List D->Prop}(hst:StW E tp H w)(hk:(∃e',P.underlying tx=some (.slice e'))\/P.underlying tx=some .string)(hx:R tp (aN E.O tp H w) w x d)(hn:0 < n)(hv:vk n d H K):
 ∃es,K es/\(∀d∈es,d.kn=true/\d.cells.length=n)/\∃news:List Value,Src P n tx x es.length news w/\bB (R tp (aN E.O tp H w) w) news (aW es):=by
 unfold vk at hv
 split at hv
 ·rename_i s
  obtain⟨rfl,hv⟩:=hv
  have hxs:=hx.inv_v
  subst hxs
  have hsl:(FA s).length=s.size:=by
   unfold FA
   rw[qym,qx2];rfl
  have hfl:aW (FA s)=FA s:=by
   unfold FA aW
   induction s.data.toList with
   | nil=>rfl
   | cons b l ih=>rw[qxZ,qyd,ih];rfl
  refine⟨FA s,hv,fun d hd=>?_,byteCells s,⟨hk,fun _=>by rw[hsl];rfl,by rw[hsl];exact firstCells_string s w,by rw[hsl];exact firstCells_string s w.drew,by rw[hsl,byteCells_length,Nat.mul_one],fun u hu=>?_⟩,?_⟩
  ·obtain⟨b,_,rfl⟩:=qxL.1 hd
   exact⟨rfl,rfl⟩
  ·obtain⟨_,_,rfl⟩:=qxL.1 hu
   rfl
  ·rw[hfl]
   intro k y c hy hc
   unfold byteCells at hy
   unfold FA at hc
   rw[qxQ]at hy hc
   obtain⟨b,hb,rfl⟩:=aF hy
   rw[hb]at hc
   cases hc
   exact⟨rfl, .int _ _⟩
 ·obtain⟨es,hk1,hes,ao,c,news,hxe,hao,hnl,hnews,hone,hcells⟩:=QI hst hx hn hv
  refine⟨es,hk1,hes,news,?_,hcells⟩
  subst hxe
  cases ao with
  | none=>
    have h0:=hao rfl
    have hne:news=[]:=qxP (by rw[hnl,h0];simp)
    subst hne
    rw[h0]
    exact⟨hk,fun _=>rfl,run_firstCells_none w n 0 0 c,run_firstCells_none w.drew n 0 0 c,by simp,fun _ h=>by cases h⟩
  | some ad=>exact⟨hk,fun _=>rfl,run_firstCells_some w n es.length ad es.length c news hnl (hnews ad rfl),run_firstCells_some w.drew n es.length ad es.length c news hnl (by simpa using hnews ad rfl),hnl,hone⟩
theorem Ln{Q:Value->D->Prop}{xs ys:List Value}{as bs:List D}(h:xs.length=as.length)(h1:bB Q xs as)(h2:bB Q ys bs):bB Q (xs++ys) (as++bs):=by
 intro k y c hy hc
 by_cases hk:k < xs.length
 ·rw[qxT hk]at hy
  rw[qxT (by omega)]at hc
  exact h1 k y c hy hc
 ·rw[qxJ (by omega)]at hy
  rw[qxJ (by omega),<-h]at hc
  exact h2 _ y c hy hc
theorem M2{t tx el:TypeId}{n bytes:Nat}{z:List Value}{c:Call}{x y:Operand}{K:D->ab->Prop}(hst:StW E tp H w)(ho:o.op= .call c)(hc:c.callee= .builtin .append)(hat:c.argTypes.toList=[t,tx])(hargs:c.args.toList=[x,y])
 (ht:P.underlying t=some (.slice el)) (htx:(∃e',P.underlying tx=some (.slice e'))\/P.underlying tx=some .string) (hs:cQ P el=some n) (hz:eK P el=some z) (hby:P.bytesOf el=bytes) (hn:0 < n)
 (hx:R tp (aN E.O tp H w) w (a.eval x) (ev σ x)) (hy:R tp (aN E.O tp H w) w (a.eval y) (ev σ y)) {rt:Option Nat} (hv:bz (.append rt el n bytes x y) o.dst σ H K):dL P o a E tp H w K:=by
 obtain⟨cl,⟨args⟩,⟨ats⟩⟩:=c
 simp only at hat hargs hc
 subst hat;subst hargs;subst hc
 simp only[bz]at hv
 obtain⟨es2,hv,hes2,news,hsrc,hcells⟩:=Yj hst htx hy hn hv
 obtain⟨i,zv,hi,hzv,hzc,hsz,hz1,hz2⟩:=dO hz
 have hni:i.size=n:=by
  unfold cQ at hs
  rw[hi]at hs
  simpa using hs
 have hbi:i.bytes=bytes:=by rw[<-hby];simp[Program.bytesOf,hi]
 have hzs:zv.cells.size=i.size:=by rw[hsz,<-hzc];simp
 generalize hq:a.eval x=q at hx
 have main:∀ (id:Nat) (v:Value) (es:List D) (xs:List Value),q=v->w.ownsRow 0 el n v es.length xs->(∀d∈es,d.kn=true/\d.cells.length=n)->bB (R tp (aN E.O tp H w) w) xs (aW es)->
  (∀b,v.ownBlock=some b->∃r,H id=some r/\r.blk=some b)->(es.length+es2.length) *bytes<=140737488355328->es.length+es2.length<=140737488355328->
  (∀v',K (.own id v') (ah H id (some (.row v' el n (es++es2)))))->dL P o a E tp H w K:=by
  intro id v es xs hqv hown hes hc1 hblk hb1 hb2 hk
  obtain⟨v',w',r1,r2,r3,r4⟩:=SY (P:=P) t tx o.type el i zv ht hi hzv hzs v es.length xs (by rw[hni];exact hown) (a.eval y) es2.length news (by rw[hni];exact hsrc) hb2 (by rw[hbi];exact hb1)
  rw[hni]at r2
  have hfl:=aP (es:=es) (fun d hd=>(hes d hd).2)
  have hv1:v'.oneCell'=true:=by
   rcases r2.2 with⟨rfl,_⟩|⟨g,cap,cur,rfl,_⟩ <;> rfl
  refine⟨.value v',v', .own id v',_,w',?_, .inl rfl,hst.own id (some (.row v' el n (es++es2))) r3 hblk (fun r b h1 h2=>?_) (fun m r h1=>?_), .own _ _ hv1,hk v'⟩
  ·simp[execOp,ho,resolve,invoke,builtin,hq,hqv,r1]
  ·cases h1
   rcases r4 b h2 with h3|h3
   ·exact .inl h3
   ·exact .inr (hblk b h3)
  ·cases h1
   refine⟨xs++news,by rw[qxX];exact r2,fun d hd=>?_,?_⟩
   ·rcases qxE.1 hd with hd|hd
    ·exact hes d hd
    ·exact hes2 d hd
   ·rw[qT]
    exact Ln (by rw[hown.1,hfl]) (fun k y c h1 h2=>⟨(hc1 k y c h1 h2).1,m _ _ (hc1 k y c h1 h2).2⟩) (fun k y c h1 h2=>⟨(hcells k y c h1 h2).1,m _ _ (hcells k y c h1 h2).2⟩)
 split at hv
 ·rename_i id v e1
  rw[e1]at hx
  cases hx with
  | own _ _ h1=>
    split at hv
    ·rename_i x' el' n' es hH
     obtain⟨rfl,rfl,rfl,hb1,hb2,hk⟩:=hv
     obtain⟨xs,hown,g3,g4⟩:=hst.sat.ok id _ hH
     exact main id x' es xs rfl hown g3 g4 (fun b hb=>⟨_,hH,hb⟩) hb1 hb2 hk
    ·exact hv.elim
 ·rename_i e1
  rw[e1]at hx
  have:=hx.inv_v
  split at hv
  ·rename_i t' hd
   exact main t' (.slice none 0 0) [] [] this (qy4 _ _ _ _) (by simp) (fun k y c h=>by simp at h) (fun b hb=>by simp[Value.ownBlock]at hb) (by simpa using hv.1) (by simpa using hv.2.1) (by simpa using hv.2.2)
  ·exact hv.elim
 ·rename_i id y n' lo up e1
  rw[e1]at hx
  split at hv
  ·rename_i x' el' n'' es hH
   obtain⟨hxe,rfl,rfl,rfl,rfl,hb1,hb2,hk⟩:=hv
   subst hxe
   obtain⟨xs,hown,g3,g4⟩:=hst.sat.ok id _ hH
   have hlen:(es.take up).length<=up:=by simp;omega
   cases hx with
   | subnil=>
     have hes:es=[]:=by
      rcases hown.2 with⟨_,h⟩|⟨g,cap,cur,h,_⟩
      ·exact qxP h
      ·cases h
     subst hes
     exact main id (.slice none 0 0) [] [] rfl (qy4 _ _ _ _) (by simp) (fun k y c h=>by simp at h) (fun b hb=>by simp[Value.ownBlock]at hb) (by simpa using hb1) (by simpa using hb2) (by simpa using hk)
   | sub _ b len cap _ _ _ p h1 h2 h3 hm hp=>
     have:=hp (.inr rfl)
     subst this
     obtain⟨g1,g2⟩:=hown
     rcases g2 with⟨h,_⟩|⟨g,cap',cur,h,g4',g5,g6,g7,g8,g9⟩
     ·cases h
     ·cases h
      have hl:(es.take up).length=up:=by simp;omega
      have hmul2:up*n''<=es.length*n'':=qya n'' h2
      refine main id (.slice (some ⟨b,0*n'',none⟩) (up -0) (cap -0)) (es.take up) (xs.take (up*n'')) rfl ?_ (fun d hd=>g3 d (qxW hd)) ?_ (fun q hq=>⟨_,hH,by simpa [Value.ownBlock,Res.blk]using hq⟩) (by rw[hl];exact hb1) (by rw[hl];exact hb2) hk
      ·rw[hl]
       refine⟨by rw[qx4,g1];omega, .inr ⟨b,cap,cur,by simp,qx3 _,g5,by omega,g7,g8,?_⟩⟩
       rw[<-g9,qzW]
       congr 1
       omega
      ·intro k y c hy hc
       rw[qxS]at hy
       split at hy
       ·exact g4 k y c hy (lp hc)
       ·cases hy
  ·exact hv.elim
 ·exact hv.elim
theorem R7{n:Nat}{es:List D}{i:Nat}(h:∀d∈es,d.cells.length=n)(hi:i<=es.length):(aW es).take (i*n)=aW (es.take i)/\(aW es).drop (i*n)=aW (es.drop i):=by
 have e1:aW es=aW (es.take i) ++aW (es.drop i):=by rw[<-qT,qyc]
 have e2:(aW (es.take i)).length=i*n:=by
  rw[aP (fun d hd=>h d (qxW hd)),qx4]
  congr 1;omega
 rw[<-e2]
 constructor
 ·conv=>lhs;rw[e1]
  exact qzL
 ·conv=>lhs;rw[e1]
  exact List.drop_left
theorem R6{n:Nat}{es es2:List D}{lo:Nat}(h:∀d∈es,d.cells.length=n)(h2:∀d∈es2,d.cells.length=n)(hfit:lo+es2.length<=es.length):
 aW (es.take lo++es2++es.drop (lo+es2.length))=setAt (aW es) (lo*n) (aW es2):=by
 unfold setAt
 rw[qT,qT,aP h2,<-qyW,(R7 h (by omega)).1,(R7 h hfit).2]
theorem Jg(hst:StW E tp H w){id b el n cap lo:Nat}{es es2:List D}(hH:H id=some (.row (.slice (some ⟨b,0,none⟩) es.length cap) el n es))(hes2:∀d∈es2,d.kn=true/\d.cells.length=n)
 {vs:List Value} (hvl:vs.length=es2.length*n) (hvc:bB (R tp (aN E.O tp H w) w) vs (aW es2)) (hone:∀u∈vs,u.oneCell'=true) (hfit:lo+es2.length<=es.length):
 ∃w',(storeCells ⟨b,lo*n,none⟩ vs 0).run P w= .ok () w'/\
  (StW E tp (ah H id (some (.row (.slice (some ⟨b,0,none⟩) es.length cap) el n (es.take lo++es2++es.drop (lo+es2.length))))) w'/\
    ∀y e,R tp (aN E.O tp H w) w y e->R tp (aN E.O tp (ah H id (some (.row (.slice (some ⟨b,0,none⟩) es.length cap) el n (es.take lo++es2++es.drop (lo+es2.length))))) w') w' y e):=by
 obtain⟨xs,⟨g1,g2⟩,g3,g4⟩:=hst.sat.ok id _ hH
 rcases g2 with⟨h,_⟩|⟨g,cap',cur,hg,g4',g5,g6,g7,g8,g9⟩
 ·cases h
 ·cases hg
  have hlen:(es.take lo++es2++es.drop (lo+es2.length)).length=es.length:=by simp;omega
  have hm1:(lo+es2.length) *n<=es.length*n:=qya n hfit
  have hm2:es.length*n<=cap*n:=qya n g6
  rw[qyW]at hm1
  have hfl:=aP (es:=es) (fun d hd=>(g3 d hd).2)
  have hfl2:=aP (es:=es2) (fun d hd=>(hes2 d hd).2)
  have hrun:=run_storeCells_at P b (lo*n) el vs 0 cur w g5 (by omega) hone
  simp only[qyJ]at hrun
  have hgh:=setRow_heap w b cur (cur.toList.take (lo*n) ++vs++cur.toList.drop (lo*n+vs.length)).toArray el (0,0) g5
  refine⟨_,hrun,hst.own id _ (nF w b _) (fun q hq=>by cases hq;exact⟨_,hH,rfl⟩) (fun r q h1 h2=>by cases h1;cases h2;exact .inr ⟨_,hH,rfl⟩) (fun m r h1=>?_)⟩
  cases h1
  have hxs:xs.length=(aW es).length:=by rw[g1,hfl]
  have htk:(cur.toList.take (lo*n) ++vs++cur.toList.drop (lo*n+vs.length)).take (es.length*n)=xs.take (lo*n) ++vs++xs.drop (lo*n+vs.length):=by
   apply qyw
   intro k
   rw[jz (by omega),qxS,jz (by simp;omega)]
   by_cases h1:k < es.length*n
   ·rw[if_pos h1]
    by_cases h2:lo*n<=k/\k < lo*n+vs.length
    ·rw[if_pos h2,if_pos h2]
    ·rw[if_neg h2,if_neg h2,<-g9,qxS,if_pos h1]
   ·rw[if_neg h1,if_neg (by omega)]
    rw[qx7 (by rw[g1];omega)]
  have hnl:(xs.take (lo*n) ++vs++xs.drop (lo*n+vs.length)).length=es.length*n:=by
   simp only[qxX,qx4,qyx,g1]
   omega
  have hml:(cur.toList.take (lo*n) ++vs++cur.toList.drop (lo*n+vs.length)).toArray.size=cap*n:=by
   simp only[qzg,qxX,qx4,qyx,qx2,g8]
   omega
  refine⟨xs.take (lo*n) ++vs++xs.drop (lo*n+vs.length),⟨by rw[hlen];exact hnl, .inr ⟨b,cap,_,by rw[hlen],qx3 _,hgh,by rw[hlen];exact g6,g7,hml,by rw[hlen];exact htk⟩⟩,fun d hd=>?_,?_⟩
  ·rcases qxE.1 hd with hd|hd
   ·rcases qxE.1 hd with hd|hd
    ·exact g3 d (qxW hd)
    ·exact hes2 d hd
   ·exact g3 d (qyt hd)
  ·rw[R6 (fun d hd=>(g3 d hd).2) (fun d hd=>(hes2 d hd).2) hfit]
   exact sf hxs (fun k y c h1 h2=>⟨(g4 k y c h1 h2).1,m _ _ (g4 k y c h1 h2).2⟩) (by rw[hvl,hfl2]) (fun k y c h1 h2=>⟨(hvc k y c h1 h2).1,m _ _ (hvc k y c h1 h2).2⟩) (by omega)
theorem Z0{agg:Bool}{z:List Value}{n:Nat}(hzn:z.length=n)(hagg:(agg||decide (n=1))=true)(hz2:z.all (fun x=>match x with| .string s=>decide (s.size<=1000000)| .bool _| .int _ _| .pointer _| .slice _ _ _| .nilFunc| .map _=>true|_=>false)=true):
 (P3 agg z).kn=true/\(P3 agg z).cells=z.map vS:=by
 unfold P3
 cases agg with
 | true=>exact⟨rfl,rfl⟩
 | false=>
   have:n=1:=by simpa using hagg
   match z,hzn with
   | [y],_=>
     cases y <;> simp at hz2 <;> simp[vS,D.kn,D.cells]
   | [],h=>simp at h;omega
   | _::_::_,h=>simp at h;omega
theorem MT{z:List Value}{n m:Nat}{e0:D}(hn:0 < n)(hzn:z.length=n)(he0:e0.kn=true/\e0.cells=z.map vS)(hz2:z.all (fun x=>match x with| .string s=>decide (s.size<=1000000)| .bool _| .int _ _| .pointer _| .slice _ _ _| .nilFunc| .map _=>true|_=>false)=true)(hz1:z.all (·.oneCell')=true){I:Nat->Prop} :
 (∀d∈List.replicate m e0,d.kn=true/\d.cells.length=n)/\(Builtin.zeroCells z.toArray m).toList.length=m*n/\bB (R tp I w) (Builtin.zeroCells z.toArray m).toList (aW (List.replicate m e0))/\∀u∈ (Builtin.zeroCells z.toArray m).toList,u.oneCell'=true:=by
 have hes:∀d∈List.replicate m e0,d.kn=true/\d.cells.length=n:=fun d hd=>by
  have:=qza hd
  subst this
  exact⟨he0.1,by rw[he0.2];simp[hzn]⟩
 have hget:∀k,k < m*n->(Builtin.zeroCells z.toArray m).toList[k]? =z[k % n]?:=fun k hk=>by
  have hm:k % z.length < z.length:=qyX _ (by omega)
  simp[Builtin.zeroCells,hzn,hk]
  rw[<-hzn]
  simp[hm]
 refine⟨hes,by simp[Builtin.zeroCells,hzn],fun k y c hy hc=>?_,fun u hu=>?_⟩
 ·obtain⟨d,hd,hdc,hmod,he⟩:=xY hn (fun d hd=>(hes d hd).2) hc
  have hd':=qza (qxC hd)
  subst hd'
  rw[he0.2]at hdc
  have hlt:k < m*n:=by
   have:=(qxz.1 hc).1
   rw[aP (fun d hd=>(hes d hd).2),qy1]at this
   exact this
  rw[hget k hlt]at hy
  exact jV hz2 hz1 (k % n) y c hy hdc
 ·obtain⟨k,hk⟩:=qx5.1 hu
  have hlt:k < m*n:=by
   have:=(qxz.1 hk).1
   simpa [Builtin.zeroCells,hzn]using this
  rw[hget k hlt]at hk
  exact qxF.1 hz1 u (qxC hk)
theorem qbU{t el:TypeId}{n:Nat}{agg:Bool}{z:List Value}{c:Call}{x:Operand}{K:D->ab->Prop}(hst:StW E tp H w)(ho:o.op= .call c)(hc:c.callee= .builtin .clear)(hat:c.argTypes.toList=[t])(hargs:c.args.toList=[x])
 (ht:P.underlying t=some (.slice el)) (hs:cQ P el=some n) (hz:eK P el=some z) (hn:0 < n) (hagg:(agg||decide (n=1))=true)
 (hx:R tp (aN E.O tp H w) w (a.eval x) (ev σ x)) (hv:bz (.clear n agg z x) o.dst σ H K):dL P o a E tp H w K:=by
 obtain⟨cl,⟨args⟩,⟨ats⟩⟩:=c
 simp only at hat hargs hc
 subst hat;subst hargs;subst hc
 simp only[bz]at hv
 obtain⟨i,zv,hi,hzv,hzc,hsz,hz1,hz2⟩:=dO hz
 have hni:i.size=n:=by
  unfold cQ at hs
  rw[hi]at hs
  simpa using hs
 have hzn:z.length=n:=by omega
 have hzc':zv.cells=z.toArray:=by rw[<-hzc]
 have he0:=Z0 hzn hagg hz2
 have mt:R tp (aN E.O tp H w) w (.tuple #[]) (.tup []):= .tup [] [] rfl (fun k x c h=>by simp at h)
 generalize hq:a.eval x=q at hx
 have nothing:∀ (ao:Option Addr) (c:Nat),q= .slice ao 0 c->K (.tup []) H->dL P o a E tp H w K:=fun ao c hqe hk=>by
  refine⟨.value (.tuple #[]), .tuple #[], .tup [],H,w,?_, .inl rfl,⟨hst,fun _ _ h=>h⟩,mt,hk⟩
  cases ao <;> simp[execOp,ho,resolve,invoke,builtin,hq,hqe,Builtin.clear_,run_underlying ht]
 have same:∀ (id:Nat) (r:Res),H id=some r->ah H id (some r)=H:=fun id r h=>by
  funext j
  unfold ah
  split
  ·rename_i e;subst e;exact h.symm
  ·rfl
 have main:∀ (id b el' cap lo up:Nat) (es:List D),H id=some (.row (.slice (some ⟨b,0,none⟩) es.length cap) el' n es)->lo<=up->up<=es.length->∀ (p:Option Addr) (cc:Nat),q= .slice p (up -lo) cc->(lo < up->p=some ⟨b,lo*n,none⟩)->
  K (.tup []) (ah H id (some (.row (.slice (some ⟨b,0,none⟩) es.length cap) el' n (es.take lo++List.replicate (up -lo) (P3 agg z) ++es.drop up))))->dL P o a E tp H w K:=by
  intro id b el' cap lo up es hH hlu hue p cc hqe hp hk
  by_cases h0:up=lo
  ·subst h0
   rw[qzb]at hqe
   refine nothing p cc hqe ?_
   rw[qzb,qzK,qyI,qyc,same id _ hH]at hk
   exact hk
  ·have hlt:lo < up:=by omega
   have hpe:=hp hlt
   subst hpe
   obtain⟨r1,r2,r3,r4⟩:=MT (tp:=tp) (w:=w) (m:=up -lo) (I:=aN E.O tp H w) hn hzn he0 hz2 hz1
   obtain⟨w',s1,s2⟩:=Jg (P:=P) hst (lo:=lo) hH r1 (by rw[qy1];exact r2) r3 r4 (by rw[qy1];omega)
   rw[qy1,show lo+ (up -lo)=up by omega]at s2
   refine⟨.value (.tuple #[]), .tuple #[], .tup [],_,w',?_, .inl rfl,s2,s2.2 _ _ mt,hk⟩
   have hne:∃m,up -lo=m+1:=⟨up -lo -1,by omega⟩
   obtain⟨m,hm⟩:=hne
   rw[hm]at hqe s1
   simp[execOp,ho,resolve,invoke,builtin,hq,hqe,Builtin.clear_,run_underlying ht,zeroValue,typeInfo,hi,hzv,hzc',s1]
 split at hv
 ·rename_i id y e1
  rw[e1]at hx
  cases hx with
  | own _ _ h1=>
    split at hv
    ·rename_i x' el' n' es hH
     obtain⟨hxe,rfl,hk⟩:=hv
     subst hxe
     obtain⟨xs,⟨g1,g2⟩,g3,g4⟩:=hst.sat.ok id _ hH
     rcases g2 with⟨h,h0⟩|⟨g,cap,cur,h,_⟩
     ·have:es=[]:=qxP h0
      subst this
      refine nothing none 0 h ?_
      simp only[qzG,qzK]at hk
      rw[same id _ hH]at hk
      exact hk
     ·rw[h]at hH hk
      exact main id g el' cap 0 es.length es hH (qx3 _) (qxI _) (some ⟨g,0,none⟩) cap (by simpa using h) (fun _=>by simp) (by simpa using hk)
    ·exact hv.elim
 ·rename_i id y n' lo up e1
  rw[e1]at hx
  split at hv
  ·rename_i x' el' n'' es hH
   obtain⟨hxe,rfl,rfl,hk⟩:=hv
   subst hxe
   obtain⟨xs,⟨g1,g2⟩,g3,g4⟩:=hst.sat.ok id _ hH
   cases hx with
   | subnil=>
     rcases g2 with⟨_,h0⟩|⟨g,cap,cur,h,_⟩
     ·have:es=[]:=qxP h0
      subst this
      refine nothing none 0 rfl ?_
      simp only[qzb,qzK,qzN,qzC,qyI]at hk
      rw[same id _ hH]at hk
      exact hk
     ·cases h
   | sub _ b len cap _ _ _ p h1 h2 h3 hm hp=>
     rcases g2 with⟨h,_⟩|⟨g,cap',cur,h,_⟩
     ·cases h
     ·cases h
      exact main id b el' cap lo up es hH h1 h2 p _ rfl (fun h=>hp (.inl (by omega))) hk
  ·exact hv.elim
 ·rename_i e1
  rw[e1]at hx
  exact nothing none 0 hx.inv_v hv
 ·exact hv.elim
theorem qfP{t el:TypeId}{n:Nat}{c:Call}{x y:Operand}{K:D->ab->Prop}(hst:StW E tp H w)(ho:o.op= .call c)(hc:c.callee= .builtin .copy)(hat:c.argTypes.toList=[t,t])(hargs:c.args.toList=[x,y])
 (ht:P.underlying t=some (.slice el)) (hs:cQ P el=some n) (hn:0 < n)
 (hx:R tp (aN E.O tp H w) w (a.eval x) (ev σ x)) (hy:R tp (aN E.O tp H w) w (a.eval y) (ev σ y)) (hv:bz (.copy n x y) o.dst σ H K):dL P o a E tp H w K:=by
 obtain⟨cl,⟨args⟩,⟨ats⟩⟩:=c
 simp only at hat hargs hc
 subst hat;subst hargs;subst hc
 simp only[bz]at hv
 obtain⟨es2,hv,hes2,ao,cc,news,hyv,hao,hnl,hnews,hone,hcells⟩:=QI hst hy hn hv
 generalize hq:a.eval x=q at hx
 have same:∀ (id:Nat) (r:Res),H id=some r->ah H id (some r)=H:=fun id r h=>by
  funext j
  unfold ah
  split
  ·rename_i e;subst e;exact h.symm
  ·rfl
 have nothing:∀ (po:Option Addr) (dl c:Nat),q= .slice po dl c->min es2.length dl=0->K (.v (.int .i64 (0:Nat))) H->dL P o a E tp H w K:=fun po dl c hqe h0 hk=>by
  refine⟨.value (.int .i64 (0:Nat)), .int .i64 (0:Nat),_,H,w,?_, .inl rfl,⟨hst,fun _ _ h=>h⟩, .int _ _,hk⟩
  have h0':Nat.min es2.length dl=0:=h0
  cases po <;> cases ao <;> simp[execOp,ho,resolve,invoke,builtin,hq,hqe,hyv,Builtin.copy_,run_underlying ht,Builtin.lenOf,aO hs,h0',Builtin.firstCells,loadCells,loadCellsFrom,storeCells,goInt]
 have main:∀ (id b el' cap lo up:Nat) (es:List D),H id=some (.row (.slice (some ⟨b,0,none⟩) es.length cap) el' n es)->lo<=up->up<=es.length->∀ (p:Option Addr) (c:Nat),q= .slice p (up -lo) c->(lo < up->p=some ⟨b,lo*n,none⟩)->
  K (.v (.int .i64 (min es2.length (up -lo):Nat))) (ah H id (some (.row (.slice (some ⟨b,0,none⟩) es.length cap) el' n (es.take lo++es2.take (up -lo) ++es.drop (lo+min es2.length (up -lo))))))->dL P o a E tp H w K:=by
  intro id b el' cap lo up es hH hlu hue p c hqe hp hk
  by_cases h0:min es2.length (up -lo)=0
  ·refine nothing p _ c hqe h0 ?_
   have ht0:es2.take (up -lo)=[]:=by
    apply qxP
    rw[qx4];omega
   rw[h0,ht0,qyI,qyJ,qyc,same id _ hH]at hk
   exact hk
  ·have hlt:lo < up:=by omega
   have hpe:=hp hlt
   subst hpe
   have hml:(es2.take (up -lo)).length=min es2.length (up -lo):=by rw[qx4];omega
   have hmle:min es2.length (up -lo) *n<=es2.length*n:=qya n (Nat.min_le_left _ _)
   have hvl:(news.take (min es2.length (up -lo) *n)).length=(es2.take (up -lo)).length*n:=by rw[hml,qx4,hnl];omega
   obtain⟨w',s1,s2⟩:=Jg (P:=P) hst (lo:=lo) (es2:=es2.take (up -lo)) (vs:=news.take (min es2.length (up -lo) *n)) hH (fun d hd=>hes2 d (qxW hd)) hvl (fun k y c hy hc=>by
    rw[qxS]at hy
    split at hy
    ·exact hcells k y c hy (lp hc)
    ·cases hy) (fun u hu=>hone u (qxW hu)) (by rw[hml];omega)
   rw[hml]at s2
   refine⟨.value (.int .i64 (min es2.length (up -lo):Nat)), .int .i64 (min es2.length (up -lo):Nat),_,_,w',?_, .inl rfl,s2, .int _ _,hk⟩
   have hao':∃ad,ao=some ad:=by
    cases ao with
    | none=>have:=hao rfl;omega
    | some ad=>exact⟨ad,rfl⟩
   obtain⟨ad,rfl⟩:=hao'
   have hld:=run_loadCells_list (P:=P) w ad (news.take (min es2.length (up -lo) *n)) (fun j v hj=>by
    rw[qxS]at hj
    split at hj
    ·exact hnews ad rfl j v hj
    ·cases hj)
   have hnn:(news.take (min es2.length (up -lo) *n)).length=Nat.min es2.length (up -lo) *n:=by rw[hvl,hml]
   rw[hnn]at hld
   have hmn:Nat.min es2.length (up -lo)=min es2.length (up -lo):=rfl
   simp[execOp,ho,resolve,invoke,builtin,hq,hqe,hyv,Builtin.copy_,run_underlying ht,Builtin.lenOf,aO hs,Builtin.firstCells,hld,s1,goInt,hmn]
 split at hv
 ·rename_i id y' e1
  rw[e1]at hx
  cases hx with
  | own _ _ h1=>
    split at hv
    ·rename_i x' el' n' es hH
     obtain⟨hxe,rfl,hk⟩:=hv
     subst hxe
     obtain⟨xs,⟨g1,g2⟩,g3,g4⟩:=hst.sat.ok id _ hH
     rcases g2 with⟨h,h0⟩|⟨g,cap,cur,h,_⟩
     ·have:es=[]:=qxP h0
      subst this
      refine nothing none 0 0 h (by simp) ?_
      simp only[qzG,Nat.min_zero,qzh,qzC,qyI]at hk
      rw[same id _ hH]at hk
      exact hk
     ·rw[h]at hH hk
      refine main id g el' cap 0 es.length es hH (qx3 _) (qxI _) (some ⟨g,0,none⟩) cap (by simpa using h) (fun _=>by simp) ?_
      have:es.drop es2.length=es.drop (min es2.length es.length):=by
       by_cases hle:es2.length<=es.length
       ·rw[Nat.min_eq_left hle]
       ·rw[Nat.min_eq_right (by omega),qyy (by omega),qyy (by omega)]
      rw[this]at hk
      simpa using hk
    ·exact hv.elim
 ·rename_i id y' n' lo up e1
  rw[e1]at hx
  split at hv
  ·rename_i x' el' n'' es hH
   obtain⟨hxe,rfl,rfl,hk⟩:=hv
   subst hxe
   obtain⟨xs,⟨g1,g2⟩,g3,g4⟩:=hst.sat.ok id _ hH
   cases hx with
   | subnil=>
     rcases g2 with⟨_,h0⟩|⟨g,cap,cur,h,_⟩
     ·have:es=[]:=qxP h0
      subst this
      refine nothing none 0 0 rfl (by simp) ?_
      simp only[qzb,Nat.min_zero,qzh,qzN,qzC,qyI]at hk
      rw[same id _ hH]at hk
      exact hk
     ·cases h
   | sub _ b len cap _ _ _ p h1 h2 h3 hm hp=>
     rcases g2 with⟨h,_⟩|⟨g,cap',cur,h,_⟩
     ·cases h
     ·cases h
      exact main id b el' cap lo up es hH h1 h2 p _ rfl (fun h=>hp (.inl (by omega))) hk
  ·exact hv.elim
 ·exact hv.elim
theorem qbV{t u el:TypeId}{n:Nat}{agg:Bool}{kn:IntKind}{z:List Value}{c:Call}{x y:Operand}{K:D->ab->Prop}(hst:StW E tp H w)(ho:o.op= .call c)(hc:c.callee= .builtin .append)(hat:c.argTypes.toList=[t,u])(hargs:c.args.toList=[x,y])
 (ht:P.underlying t=some (.slice el)) (hu:P.underlying u=some (.int kn)) (hs:cQ P el=some n) (hz:eK P el=some z) (hn:0 < n) (hagg:(agg||decide (n=1))=true)
 (hx:R tp (aN E.O tp H w) w (a.eval x) (ev σ x)) (hy:R tp (aN E.O tp H w) w (a.eval y) (ev σ y)) (hv:bz (.appmk el n (P.bytesOf el) agg z x y) o.dst σ H K):dL P o a E tp H w K:=by
 obtain⟨cl,⟨args⟩,⟨ats⟩⟩:=c
 simp only at hat hargs hc
 subst hat;subst hargs;subst hc
 simp only[bz]at hv
 split at hv
 ·rename_i e1
  rw[e1]at hx
  have hxv:=hx.inv_v
  split at hv
  ·rename_i t' kc c hdst e2
   obtain⟨h0,hb,h63,hk⟩:=hv
   have hyv:a.eval y= .int kc c:=by
    rw[A7 e2]at hy
    exact hy.inv_v
   obtain⟨i,zv,hi,hzv,hzc,hsz,hz1,hz2⟩:=dO hz
   have hni:i.size=n:=by
    unfold cQ at hs
    rw[hi]at hs
    simpa using hs
   have hbi:i.bytes=P.bytesOf el:=by simp[Program.bytesOf,hi]
   have hzn:z.length=n:=by omega
   have hzc':zv.cells=z.toArray:=by rw[<-hzc]
   have he0:=Z0 hzn hagg hz2
   obtain⟨m,rfl⟩:∃m:Nat,c=m:=⟨c.toNat,by omega⟩
   rw[qAe]at hk
   by_cases hm0:m=0
   ·subst hm0
    refine⟨.value (.slice none 0 0), .slice none 0 0, .own t' (.slice none 0 0),_,w,?_, .inl rfl,hst.own t' (some (.row (.slice none 0 0) el n (List.replicate 0 (P3 agg z)))) (kb w none) (fun b hb=>by cases hb) (fun r b h1 h2=>by cases h1;simp[Res.blk,Value.ownBlock]at h2) (fun m r h1=>?_), .own _ _ rfl,hk _⟩
    ·simp[execOp,ho,resolve,invoke,builtin,hxv,hyv,Builtin.append_,run_underlying ht,run_underlying hu,sizeOf,typeInfo,hi,asInt,asIntOf,IntKind.wrap_i64]
    ·cases h1
     exact⟨[],qy4 _ _ _ _,by simp,fun k y c h=>by simp at h⟩
   ·have hb':m*i.bytes<=140737488355328:=by
     rw[hbi]
     have:((m*P.bytesOf el:Nat):Int)<=140737488355328:=by push_cast;exact hb
     omega
    have hrun:=Lib.run_append_nil_zeros (P:=P) w t u o.type el i zv kc kn ht hu hi hzv m (by omega) (by omega) (by omega) (by omega)
    rw[hzc']at hrun
    obtain⟨r1,r2,r3,r4⟩:=MT (tp:=tp) (w:=w) (m:=m) (I:=aN E.O tp H w) hn hzn he0 hz2 hz1
    have hge:=grownCap_ge w m 0 el
    have hcm:grownCap w m 0 el<=maxLen:=grownCap_le_maxLen w m 0 el (by simp only[maxLen];omega)
    have hown:(w.drew.alloc (.cells (Builtin.zeroCells z.toArray m++Builtin.zeroCells z.toArray (grownCap w m 0 el -m)) el)).ownsRow 0 el n (.slice (some ⟨w.heap.size,0,none⟩) m (grownCap w m 0 el)) m (Builtin.zeroCells z.toArray m).toList:=by
     refine⟨r2, .inr ⟨w.heap.size,_,_,rfl,qx3 _,heap_alloc_new w.drew _,hge,hcm,?_,?_⟩⟩
     ·simp only[qAd,size_zeroCells,qzg,hzn,<-qyW]
      congr 1;omega
     ·rw[qz2,<-r2];exact qzL
    refine⟨.value (.slice (some ⟨w.heap.size,0,none⟩) m (grownCap w m 0 el)), .slice (some ⟨w.heap.size,0,none⟩) m (grownCap w m 0 el), .own t' _,_,w.drew.alloc (.cells (Builtin.zeroCells z.toArray m++Builtin.zeroCells z.toArray (grownCap w m 0 el -m)) el),?_, .inl rfl,hst.own t' (some (.row (.slice (some ⟨w.heap.size,0,none⟩) m (grownCap w m 0 el)) el n (List.replicate m (P3 agg z)))) (row:=none) ⟨⟨rfl,rfl,rfl,by simp,fun k hk _=>qzQ w.drew _ k hk⟩,qy7 _⟩ (fun b hb=>by cases hb) (fun r b h1 h2=>?_) (fun mv r h1=>?_), .own _ _ rfl,hk _⟩
    ·simp[execOp,ho,resolve,invoke,builtin,hxv,hyv,hrun]
    ·cases h1
     simp[Res.blk,Value.ownBlock]at h2
     exact .inl (by omega)
    ·cases h1
     refine⟨_,by rw[qy1];exact hown,r1,fun k y c h1 h2=>⟨(r3 k y c h1 h2).1,mv _ _ (r3 k y c h1 h2).2⟩⟩
  ·exact hv.elim
 ·exact hv.elim
theorem YL{t:Nat}{ty:TypeId}{x:Operand}{s:ByteArray}{K:D->ab->Prop}(hst:StW E tp H w)(ho:o.op= .range ty x)(ht:P.underlying ty=some .string)(hx:a.eval x= .string s)
 (hv:∀b,K (.bptr t b 0) (ah H t (some (.iter b s 0)))):dL P o a E tp H w K:=by
 refine⟨_, .pointer (some ⟨w.heap.size,0,none⟩), .bptr t w.heap.size 0,_,w.alloc (.stringIter s 0),?_, .inl rfl,su (r':= .iter w.heap.size s 0) hst (fun b hb=>by cases hb;rfl) (fun m=>?_), .bptr _ _ _,hv _⟩
 ·have hrun:=run_range_string (P:=P) w ty s ht
  simp only[execOp,ho,hx,qxV,hrun,qxM,qx9]
  rfl
 ·exact heap_alloc_new _ _
theorem Pa(w:World)(b:Nat)(s:ByteArray)(p:Nat):GrB w (w.iterAt b s p) (some b):=by
 refine⟨⟨rfl,rfl,rfl,by rw[Lib.iterAt_size];exact qxI _,fun k _ hk=>Lib.iterAt_other w b k s p (fun e=>hk (by rw[e]))⟩,qxI _⟩
theorem qbT{x:Operand}{K:D->ab->Prop}(hst:StW E tp H w)(ho:o.op= .next x true)(hx:R tp (aN E.O tp H w) w (a.eval x) (ev σ x))(hv:bz (.snext x) o.dst σ H K):dL P o a E tp H w K:=by
 simp only[bz]at hv
 generalize hq:a.eval x=q at hx
 split at hv
 ·rename_i id b off e1
  rw[e1]at hx
  obtain⟨rfl,hv⟩:=hv
  cases hx
  split at hv
  ·rename_i b' s pos hH
   obtain⟨rfl,h1,h2⟩:=hv
   have hb:w.heap[b']? =some (.stringIter s pos):=hst.sat.ok id _ hH
   by_cases hp:pos < s.size
   ·have hrun:=Lib.run_next_any_at (P:=P) w b' s pos o.type hb hp
    have hR:∀ (I:Nat->Prop) (w':World),R tp I w' (.tuple #[.bool true, .int .i64 pos, .int .i32 (Utf8.decode s pos).1]) (.tup [.v (.bool true), .v (.int .i64 pos), .v (.int .i32 (Utf8.decode s pos).1)]):=fun I w'=>
     .tup [.bool true, .int .i64 pos, .int .i32 (Utf8.decode s pos).1] _ rfl fun k y c h1 h2=>by
      match k with
      | 0=>simp at h1 h2;subst h1;subst h2;exact .bool _
      | 1=>simp at h1 h2;subst h1;subst h2;exact .int _ _
      | 2=>simp at h1 h2;subst h1;subst h2;exact .int _ _
      | k+3=>simp at h1
    refine⟨_,_,_,_,w.iterAt b' s (pos+ (Utf8.decode s pos).2),by simp only[execOp,ho,hq,qxV,hrun,qxM,qx9], .inl rfl,hst.own id (some (.iter b' s (pos+ (Utf8.decode s pos).2))) (Pa w b' s _) (fun b hb=>by cases hb;exact⟨_,hH,rfl⟩) (fun r b h1 h2=>by cases h1;cases h2;exact .inr ⟨_,hH,rfl⟩) (fun m r h1=>?_),hR _ _,h1 hp⟩
    cases h1
    exact Lib.iterAt_heap w b' s pos _ hb
   ·have hrun:=Lib.run_next_end_at (P:=P) w b' s pos o.type hb hp
    refine⟨_,_,_,_,w,by simp only[execOp,ho,hq,qxV,hrun,qxM,qx9], .inl rfl,⟨hst,fun y e h=>h⟩, .tup [.bool false] [.v (.bool false)] rfl (fun k y c h1 h2=>by
     match k with
     | 0=>simp at h1 h2;subst h1;subst h2;exact .bool _
     | k+1=>simp at h1),h2 hp⟩
  ·exact hv.elim
 ·exact hv.elim
theorem RU{t u el:TypeId}{x:Operand}{K:D->Prop}(hst:StW E tp H w)(ho:o.op= .convert t u x)(h1:P.underlying t=some .string)(h2:P.underlying u=some (.slice el))(h3:P.underlying el=some (.int .u8))
 (hx:R tp (aN E.O tp H w) w (a.eval x) (ev σ x)) {Hr:ab} (hv:am (.sbytes x) σ Hr K):GoodN P o a E tp H w K:=by
 simp only[am]at hv
 split at hv
 ·rename_i s e1
  rw[e1]at hx
  obtain⟨hxs,hsz⟩:=hx.inv_str
  have hrun:=run_bytes_of_string (P:=P) w t u el s h1 h2 h3
  generalize hC:bytesRow s (grownCap w s.size 0 el)=C at hrun
  generalize hcap:grownCap w s.size 0 el=cap at hrun hC
  have hcm:cap<=maxLen:=by rw[<-hcap];exact grownCap_le_maxLen w _ _ _ hsz
  have hcg:s.size<=cap:=by rw[<-hcap];exact grownCap_ge w _ _ _
  have hgw:GrB w (w.drew.alloc (.cells C el (C.size,C.size+1))) none:=by
   have:=qz0 w.drew (.cells C el (C.size,C.size+1)) none
   exact⟨⟨this.os,this.tape,this.output,this.size,this.block⟩,qy7 _⟩
  have hlen:(s.data.toList.map fun c=>D.v (.int .u8 c.toNat)).length=s.size:=by
   rw[qym,qx2];rfl
  have hfl:aW (s.data.toList.map fun c=>D.v (.int .u8 c.toNat))=s.data.toList.map fun c=>D.v (.int .u8 c.toNat):=by
   unfold aW
   generalize s.data.toList=l
   induction l with
   | nil=>rfl
   | cons c l ih=>simp only[qxZ,qyd,D.cells,ih];rfl
  refine⟨.slice (some ⟨w.heap.size,0,none⟩) s.size cap,_,_,by simp only[execOp,ho,hxs,qxV,hrun,qxM,qx9],hgw,fun hst' m=>?_,hv⟩
  have hgn:(w.drew.alloc (.cells C el (C.size,C.size+1))).heap[w.heap.size]? =some (.cells C el (C.size,C.size+1)):=heap_alloc_new _ _
  have key:∀ (k:Nat) (c:D),(aW (s.data.toList.map fun c=>D.v (.int .u8 c.toNat)))[k]? =some c->∃q:UInt8,c= .v (.int .u8 q.toNat)/\C[k]? =some (.int .u8 q.toNat):=by
   intro k c hk
   rw[hfl,qxQ]at hk
   obtain⟨q,hq,rfl⟩:=qxK.1 hk
   refine⟨q,rfl,?_⟩
   have hks:k < s.data.size:=by
    have h:=(qxz.1 hq).1
    rwa [qx2]at h
   have hqq:s.data[k]? =some q:=by rwa [qx6]at hq
   rw[<-hC,bytesRow,qys (by simpa using hks),Array.getElem?_map,hqq]
   rfl
  have hmain:R tp (aN E.O tp H (w.drew.alloc (.cells C el (C.size,C.size+1)))) (w.drew.alloc (.cells C el (C.size,C.size+1))) (.slice (some ⟨w.heap.size,0,none⟩) (s.data.toList.map fun c=>D.v (.int .u8 c.toNat)).length cap) (.list 1 (s.data.toList.map fun c=> .v (.int .u8 c.toNat))):=by
   refine .list w.heap.size 0 cap 1 _ (fun k=>C.getD k undef) ⟨by simp,fun h=>?_,fun h=>?_,fun⟨i,r,h1,h2⟩=>?_⟩ (by rw[hlen];exact hcg) hcm (fun h=>absurd rfl h) (fun d hd=>?_) (fun k c hk=>?_) (fun k c hk=>?_) (fun k c hk=>?_)
   ·have:=hst.hO _ h;have:=hst.step.size;omega
   ·have:=hst.tpl.1 _ h;omega
   ·have:=(hst.sat.ok i r h1).lt h2;omega
   ·obtain⟨c,_,rfl⟩:=qxL.1 hd
    exact⟨rfl,rfl⟩
   all_goals
    obtain⟨q,e2,e3⟩:=key k c hk
    have hg:C.getD k undef= .int .u8 q.toNat:=by rw[qx8,e3];rfl
    try dsimp only
    rw[hg]
   ·rw[qyo,cell_of_row _ _ k C el _ hgn];exact e3
   ·rfl
   ·rw[e2];exact .int _ _
  rw[hlen]at hmain
  exact hmain
 ·exact hv.elim
end
end Go.Gv
