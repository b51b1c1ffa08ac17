/- S6 -/
import Derived.Lib.AppendZeros
import Derived.Lib.OthersKept
import Derived.Laws.IdiomStrings
import Derived.Test.YtnffegdacbdhmaaGreatDoorGd04
set_option linter.all false
namespace Go.Gv
def dB(P:Program)(o:Oper)(a:Act)(E:AD)(tp:Nat->Prop)(H:ab)(w:World)(K:D->ab->Prop):Prop:=
 ∃nx x d H' w',(execOp a.eval o).run P w= .ok nx w'/\(nx= .value x\/(nx= .skip/\x=Go.undef))/\
  (StW E tp H' w'/\∀y e,R tp (bh E.O tp H w) w y e->R tp (bh E.O tp H' w') w' y e)/\R tp (bh E.O tp H' w') w' x d/\K d H'
section
variable {P:Program}{o:Oper}{a:Act}{E:AD}{tp:Nat->Prop}{H:ab}{w:World}{σ:Sg}
def GoodN.og{Kd:D->Prop}{K:D->ab->Prop}(hst:StW E tp H w)(h:GoodN P o a E tp H w Kd)(hk:∀d,Kd d->K d H):dB P o a E tp H w K:=by
 obtain⟨x,d,w',h1,h2,h3,h4⟩:=h;have hm:=hst.grow h2;exact⟨_,x,d,H,w',h1, .inl rfl,hm,h3 hm.1 hm.2,hk d h4⟩
def oz{t:Nat}{ob:Obj}{r':Res}(hst:StW E tp H w)(hb:∀b,r'.blk=some b->b=w.heap.size)
 (hok:(∀x d,R tp (bh E.O tp H w) w x d->R tp (bh E.O tp (ai H t (some r')) (w.alloc ob)) (w.alloc ob) x d)->ResOk (R tp (bh E.O tp (ai H t (some r')) (w.alloc ob)) (w.alloc ob)) (w.alloc ob) r'):
 StW E tp (ai H t (some r')) (w.alloc ob)/\∀x d,R tp (bh E.O tp H w) w x d->R tp (bh E.O tp (ai H t (some r')) (w.alloc ob)) (w.alloc ob) x d:=
 hst.own t (some r') (GrB.alloc w ob none) (λb hb=>by cases hb) (λr b h1 h2=>by cases h1;exact .inl (by rw[hb b h2];exact qz2 _)) (λm r h1=>by cases h1;exact hok m)
def qfj{el t:Nat}{z:List Value}{K:D->ab->Prop}(hst:StW E tp H w)(ho:o.op= .alloc el)(hz:fp P el=some z)(hv:∀b,K (.bptr t b 0) (ai H t (some (.box b (z.map qH))))):dB P o a E tp H w K:=by
 obtain⟨i,zv,hi,hzv,hzc,hsz,hz1,hz2⟩:=ek hz;refine⟨_, .pointer (some ⟨w.heap.size,0,none⟩), .bptr t w.heap.size 0,_,w.alloc (.cells zv.cells el),?_, .inl rfl,oz (r':= .box w.heap.size (z.map qH)) hst (λb hb=>by cases hb;rfl) (λm=>?_), .bptr _ _ _,hv _⟩
 ·simp[execOp,ho,Instr.alloc,zeroValue,typeInfo,hi,hzv,newVar,newRow]
 ·exact⟨zv.cells,el,heap_alloc_new _ _,by rw[<-qAi,hzc];simp,by rw[hzc];exact lE hz2 hz1⟩
def qmr{el t:Nat}{x:Operand}{K:D->ab->Prop}(hst:StW E tp H w)(ho:o.op= .box el x)(hx:R tp (bh E.O tp H w) w (a.eval x) (ev σ x))(hkn:(ev σ x).kn=true)(hv:∀b,K (.bptr t b 0) (ai H t (some (.box b (ev σ x).cells)))):dB P o a E tp H w K:=by
 refine⟨_, .pointer (some ⟨w.heap.size,0,none⟩), .bptr t w.heap.size 0,_,w.alloc (.cells (a.eval x).cells el),?_, .inl rfl,oz (r':= .box w.heap.size (ev σ x).cells) hst (λb hb=>by cases hb;rfl) (λm=>?_), .bptr _ _ _,hv _⟩
 ·simp[execOp,ho,Instr.box,newVar,newRow]
 ·obtain⟨c1,c2⟩:=(m _ _ hx).cells hkn;exact⟨(a.eval x).cells,el,heap_alloc_new _ _,by rw[<-c1];simp,c2⟩
def qmo{el t:Nat}{x:Operand}{K:D->ab->Prop}(hst:StW E tp H w)(ho:o.op= .box el x)(hx:R tp (bh E.O tp H w) w (a.eval x) (ev σ x))(hkn:(ev σ x).kn=true)(hv:∀b,K (.bptr t b 0) (ai H t (some (.tbox el b (ev σ x).cells)))):dB P o a E tp H w K:=by
 refine⟨_, .pointer (some ⟨w.heap.size,0,none⟩), .bptr t w.heap.size 0,_,w.alloc (.cells (a.eval x).cells el),?_, .inl rfl,oz (r':= .tbox el w.heap.size (ev σ x).cells) hst (λb hb=>by cases hb;rfl) (λm=>?_), .bptr _ _ _,hv _⟩
 ·simp[execOp,ho,Instr.box,newVar,newRow]
 ·obtain⟨c1,c2⟩:=(m _ _ hx).cells hkn;exact⟨(a.eval x).cells,heap_alloc_new _ _,by rw[<-c1];simp,c2⟩
theorem qce{el n t:Nat}{ty:TypeId}{parts:Array (Nat×Operand)}{z:List Value}{K:D->ab->Prop}(hst:StW E tp H w)(ho:o.op= .buildSlice ty 0 parts)(ht:P.underlying ty=some (.slice el))(hs:dn P el=some n)(hz:fp P el=some z)(hps:xt parts 0=some [])
 (hv:∀x,K (.own t x) (ai H t (some (.row x el n [])))):dB P o a E tp H w K:=by
 have hp:parts= #[]:=by
  unfold xt at hps;split at hps
  ·rename_i h;obtain⟨l⟩:=parts;simp at h;simp[h]
  ·cases hps
 obtain⟨i,zv,hi,hzv,hzc,hsz,hz1,hz2⟩:=ek hz;have hown:∀(w':World) (b:Nat),w'.heap[b]? =some (.cells #[] el (0,0))->w'.ownsRow 0 el n (.slice (some ⟨b,0,none⟩) 0 0) 0 []:=λw' b hb=>
  ⟨by simp, .inr ⟨b,0, #[],rfl,qAr _,hb,qz2 _,qAr _,by simp,by simp⟩⟩
 refine⟨_, .slice (some ⟨w.heap.size,0,none⟩) 0 0, .own t (.slice (some ⟨w.heap.size,0,none⟩) 0 0),_,w.alloc (.cells #[] el),?_, .inl rfl,oz (r':= .row (.slice (some ⟨w.heap.size,0,none⟩) 0 0) el n []) hst (λb hb=>by cases hb;rfl) (λm=>?_), .own _ _ rfl,hv _⟩
 ·simp[execOp,ho,hp,Instr.buildSlice,run_underlying ht,aW hs,Instr.fill,newRow,Array.range_zero']
 ·exact⟨[],hown _ _ (heap_alloc_new _ _),by simp,λk y c h=>by simp at h⟩
theorem qcf{ty el:TypeId}{n len t:Nat}{parts:Array (Nat×Operand)}{ps:List Operand}{z0:List Value}{K:D->ab->Prop}(hst:StW E tp H w)(ho:o.op= .buildSlice ty len parts)(ht:P.underlying ty=some (.slice el))(hs:dn P el=some n)
 (hz:fp P el=some z0) (hps:xt parts len=some ps) (hlim:len*n<=2^24) (hn:0<n) (hlen0:len≠0) (hr:∀x∈ps,R tp (bh E.O tp H w) w (a.eval x) (ev σ x)) (hpv:kg n (ps.map (ev σ)))
 (hv:∀x,K (.own t x) (ai H t (some (.row x el n (ps.map (ev σ)))))):dB P o a E tp H w K:=by
 unfold xt at hps;split at hps
 ·rename_i hidx;cases hps;have hlen:parts.toList.length=len:=by
   have:=congrArg List.length hidx;simpa using this
  obtain⟨i,zv,hi,hzv,hzc,hsz,hz1,hz2⟩:=ek hz;have hall:=yZ hpv;have hvs:∀v∈ (parts.toList.map (·.2)).map a.eval,v.cells.size=n:=by
   intro v hv';obtain⟨x,hx,rfl⟩:=qz1.1 hv';have h1:=hall (ev σ x) (qz1.2 ⟨x,hx,rfl⟩);have:=((hr x hx).cells h1.1).1;rw[<-h1.2,<-this];simp
  have hz0:z0.length=n:=by
   unfold dn at hs;rw[hi]at hs;simp at hs;omega
  have hzv0:¬(len*n=0):=by
   intro h;rcases Nat.mul_eq_zero.1 h with h|h<;>omega
  obtain⟨cells',r1,r2,r3,r4⟩:=Nd (n:=n) ((parts.toList.map (·.2)).map a.eval) 0 ((Array.range (len*n)).map (zv.cells[· % zv.cells.size]!)) hvs (by simp[hlen]);have hparts:(List.range' 0 ((parts.toList.map (·.2)).map a.eval).length).zip ((parts.toList.map (·.2)).map a.eval)=parts.toList.map λp=>(p.1,a.eval p.2):=by
   have e1:List.range' 0 ((parts.toList.map (·.2)).map a.eval).length=parts.toList.map (·.1):=by
    rw[hidx,qB0];simp[hlen]
   rw[e1,List.map_map,List.zip_map', ];rfl
  rw[hparts]at r1;have hrun:(Instr.buildSlice ty len (parts.map λ(i,x)=>(i,a.eval x))).run P w= .ok (.slice (some ⟨w.heap.size,0,none⟩) len len) (w.alloc (.cells cells' el)):=by
   have hl:¬(16777216<len*n):=by omega
   have r1':Instr.fill (λi=>some (i*n,n)) ((Array.range (len*n)).map (zv.cells[· % zv.cells.size]!)) (parts.toList.map λp=>(p.1,a.eval p.2))=some cells':=r1;simp[Instr.buildSlice,run_underlying ht,aW hs,hl,hzv0,zeroValue,typeInfo,hi,hzv,r1',newRow]
  have hsz':cells'.size=len*n:=by rw[r2];simp
  have hnn:∀d∈ (parts.toList.map (·.2)).map (ev σ),d.kn=true/\d.cells.length=n:=hall;have hlen2:((parts.toList.map (·.2)).map (ev σ)).length=len:=by simp[hlen]
  refine⟨_, .slice (some ⟨w.heap.size,0,none⟩) len len, .own t (.slice (some ⟨w.heap.size,0,none⟩) len len),_,w.alloc (.cells cells' el),by simp[execOp,ho,hrun], .inl rfl,
   oz (r':= .row (.slice (some ⟨w.heap.size,0,none⟩) len len) el n ((parts.toList.map (·.2)).map (ev σ))) hst (λb hb=>by cases hb;rfl) (λm=>?_), .own _ _ rfl,hv _⟩
  refine⟨cells'.toList,⟨?_, .inr ⟨w.heap.size,len,cells',by rw[hlen2],qAr _,heap_alloc_new _ _,by rw[hlen2];exact qz2 _,by have:len<=len*n:=qBR _ hn;simp only[maxLen];omega,hsz',?_⟩⟩,hnn,?_⟩
  ·rw[hlen2];simpa using hsz'
  ·rw[hlen2,<-hsz',qAT (by simp)]
  ·intro k y c hy hk;obtain⟨d,hd,hdc,hmod,he⟩:=zA hn (λd hd=>(hnn d hd).2) hk;rw[qz7]at hd;obtain⟨x,hx,rfl⟩:=aN hd;have hxm:x∈parts.toList.map (·.2):=qzY hx;have hRx:=m _ _ (hr x hxm);have hkx:=hnn (ev σ x) (qz1.2 ⟨x,hxm,rfl⟩);obtain⟨c1,c2⟩:=hRx.cells hkx.1;have hvx:((parts.toList.map (·.2)).map a.eval)[k/n]? =some (a.eval x):=by rw[qz7,hx];rfl
   have:=r4 (k/n) (k % n) _ hvx hmod;rw[qAG,<-he]at this;have hy':cells'[k]? =some y:=by simpa using hy
   rw[hy']at this;exact c2 (k % n) y c (by simpa using this.symm) hdc
 ·cases hps
def O4{z:List Value}(hz:0<z.length)(N k:Nat)(hk:k<N):(madeCells z.toArray N)[k]? =z[k % z.length]?:=by
 have hm:k % z.length<z.length:=qBG _ hz;simp[madeCells,hk,hm]
theorem YU{el n t:Nat}{ty:TypeId}{agg:Bool}{z:List Value}{lo co:Operand}{kl kc:IntKind}{l c:Int}{K:D->ab->Prop}(hst:StW E tp H w)(ho:o.op= .makeSlice ty lo co)(ht:P.underlying ty=some (.slice el))(hs:dn P el=some n)(hz:fp P el=some z)
 (hn:0<n) (hagg:(agg||n=1)=true) (hl:a.eval lo= .int kl l) (hc:a.eval co= .int kc c) (h0:0<=l) (hlc:l<=c) (hb:(P.bytesOf el:Int) *c<=140737488355328) (h63:c<=140737488355328)
 (hv:∀x,K (.own t x) (ai H t (some (.row x el n (List.replicate l.toNat (if agg then .agg (z.map qH)else qH (z.headD (.bool false)))))))):dB P o a E tp H w K:=by
 obtain⟨i,zv,hi,hzv,hzc,hsz,hz1,hz2⟩:=ek hz;have hbi:i.bytes=P.bytesOf el:=by simp[Program.bytesOf,hi]
 have hni:i.size=n:=by
  unfold dn at hs;rw[hi]at hs;simpa using hs
 have hzn:z.length=n:=by omega
 have hrun:=run_make (P:=P) w ty el i zv ht hi hzv kl kc l c h0 hlc (by rw[hbi];omega) (by omega);have hzc':zv.cells=z.toArray:=by rw[<-hzc]
 generalize hE:(if agg then D.agg (z.map qH)else qH (z.headD (.bool false)))=e0 at hv;have he0:e0.kn=true/\e0.cells=z.map qH:=by
  rw[<-hE];cases agg with
  |true=>exact⟨rfl,rfl⟩
  | false=>
    have:n=1:=by simpa using hagg
    match z,hzn with
    | [y],_=>
      have hz2':=hz2;cases y<;>simp at hz2'<;>simp[qH,D.kn,D.cells]
    | [],h=>simp at h;omega
    | _::_::_,h=>simp at h;omega
 have hes:∀d∈List.replicate l.toNat e0,d.kn=true/\d.cells.length=n:=λd hd=>by
  have:=qBz hd;subst this;exact⟨he0.1,by rw[he0.2];simp[hzn]⟩
 refine⟨_, .slice (some ⟨w.heap.size,0,none⟩) l.toNat c.toNat, .own t (.slice (some ⟨w.heap.size,0,none⟩) l.toNat c.toNat),_,w.alloc (.cells (madeCells zv.cells (c.toNat*i.size)) el),?_, .inl rfl,
  oz (r':= .row (.slice (some ⟨w.heap.size,0,none⟩) l.toNat c.toNat) el n (List.replicate l.toNat e0)) hst (λb hb=>by cases hb;rfl) (λm=>?_), .own _ _ rfl,hv _⟩
 ·simp only[execOp,ho,hl,hc,qAk,hrun,qz8,qAu]
 ·rw[hni,hzc'];refine⟨(madeCells z.toArray (c.toNat*n)).toList.take (l.toNat*n),⟨?_, .inr ⟨w.heap.size,c.toNat,madeCells z.toArray (c.toNat*n),by simp,qAr _,heap_alloc_new _ _,by simp;omega,by simp only[maxLen];omega,by simp[madeCells],by simp⟩⟩,hes,?_⟩
  ·simp[madeCells];rw[show min l.toNat c.toNat=l.toNat by omega]
  ·intro k y c' hy hc';obtain⟨d,hd,hdc,hmod,he⟩:=zA hn (λd hd=>(hes d hd).2) hc';have hd':=qBz (qzY hd);subst hd';rw[he0.2]at hdc;rw[qAf]at hy;split at hy
   ·rename_i hlt;have hle:l.toNat*n<=c.toNat*n:=qAy n (by omega);rw[qAn,O4 (by omega) _ k (by omega),hzn]at hy;exact lE hz2 hz1 (k % n) y c' hy hdc
   ·cases hy
theorem qff{t:TypeId}{sz:Nat}{x y:Operand}{K:D->ab->Prop}(hst:StW E tp H w)(ho:o.op= .store t x y)(hs:dn P t=some sz)
 (hx:R tp (bh E.O tp H w) w (a.eval x) (ev σ x)) (hy:R tp (bh E.O tp H w) w (a.eval y) (ev σ y)) {rt:Option Nat} (hv:bk (.store rt sz x y) o.dst σ H K):dB P o a E tp H w K:=by
 simp only[bk]at hv;obtain⟨hkn,hlen,hv⟩:=hv;obtain⟨c1,c2⟩:=hy.cells hkn;have hsz:(a.eval y).cells.size=sz:=by rw[<-hlen,<-c1];simp
 have hone:∀q∈ (a.eval y).cells.toList,q.oneCell'=true:=λq hq=>by
  obtain⟨k,hk⟩:=qAp.1 hq;have hlt:k<(ev σ y).cells.length:=by rw[<-c1];exact(qzV.1 hk).1
  exact(c2 k q _ hk (qzX hlt)).1
 generalize hq:a.eval x=q at hx;split at hv
 ·rename_i id b off e1;rw[e1]at hx;cases hx;split at hv
  ·rename_i b' cells hH;obtain⟨rfl,hfit,hk⟩:=hv;obtain⟨xs,el,g1,g2,g3⟩:=hst.sat.ok id _ hH;have hrun:=FJ (P:=P) hs hsz (b:=b') (off:=off) g1 (by omega) hone;have hgh:=setRow_heap w b' xs (xs.toList.take off++ (a.eval y).cells.toList++xs.toList.drop (off+ (a.eval y).cells.toList.length)).toArray el (0,0) g1;refine⟨.skip,Go.undef, .undef,_,w.setRow b' (xs.toList.take off++ (a.eval y).cells.toList++xs.toList.drop (off+ (a.eval y).cells.toList.length)).toArray,?_, .inr ⟨rfl,rfl⟩,hst.own id (some (.box b' (setAt cells off (ev σ y).cells))) (oU w b' _) (λb hb=>by cases hb;exact⟨_,hH,rfl⟩) (λr b h1 h2=>by cases h1;cases h2;exact .inr ⟨_,hH,rfl⟩) (λm r h1=>?_), .undef,hk⟩
   ·simp[execOp,ho,hq,Instr.storeAt,Instr.sureAddr,hrun]
   ·cases h1;refine⟨_,el,hgh,?_,?_⟩
    ·rw[nS (by omega)];simp;omega
    ·refine tb (by simpa using g2) (λk y c h1 h2=>⟨(g3 k y c h1 h2).1,m _ _ (g3 k y c h1 h2).2⟩) c1 (λk y c h1 h2=>⟨(c2 k y c h1 h2).1,m _ _ (c2 k y c h1 h2).2⟩) (by omega)
  ·exact hv.elim
 ·rename_i id y' n i off e1;rw[e1]at hx;cases hx with
  | eptr _ b len cap _ _ _=>
    split at hv
    ·rename_i x' el n' es hH;obtain⟨rfl,rfl,hn0,hfit,hi,hk⟩:=hv;obtain⟨xs,⟨g1,g2⟩,g3,g4⟩:=hst.sat.ok id _ hH;have hd:es[i]? =some es[i]:=by simp[hi]
     have hk:=hk _ hd;have hdn:=(g3 _ (qzY hd)).2;generalize hE:(if off=0/\sz=n' then ev σ y else D.agg (setAt es[i].cells off (ev σ y).cells))=e0 at hk;have he0:e0.kn=true/\e0.cells=setAt es[i].cells off (ev σ y).cells:=by
      rw[<-hE];split
      ·rename_i h;refine⟨hkn,?_⟩;have h1:off=0:=h.1;have h2:(ev σ y).cells.length=es[i].cells.length:=by omega
       simp[setAt,h1,h2]
      ·exact⟨rfl,rfl⟩
     rcases g2 with⟨h,_⟩|⟨g,cap',cur,hg,_,g5,g6,g7,g8,g9⟩
     ·cases h
     ·cases hg;have hle:(i+1) *n'<=cap*n':=qAy n' (by omega);rw[qAI]at hle;have hrun:=FJ (P:=P) hs hsz (b:=b) (off:=i*n'+off) g5 (by omega) hone;have hgh:=setRow_heap w b cur (cur.toList.take (i*n'+off) ++ (a.eval y).cells.toList++cur.toList.drop (i*n'+off+ (a.eval y).cells.toList.length)).toArray el (0,0) g5;have hfl:=aY (es:=es) (λd hd=>(g3 d hd).2);have hle2:(i+1) *n'<=es.length*n':=qAy n' hi;rw[qAI]at hle2;refine⟨.skip,Go.undef, .undef,_,w.setRow b (cur.toList.take (i*n'+off) ++ (a.eval y).cells.toList++cur.toList.drop (i*n'+off+ (a.eval y).cells.toList.length)).toArray,?_, .inr ⟨rfl,rfl⟩,
       hst.own id (some (.row (.slice (some ⟨b,0,none⟩) es.length cap) el n' (es.set i e0))) (oU w b _) (λq hq=>by cases hq;exact⟨_,hH,rfl⟩) (λr q h1 h2=>by cases h1;cases h2;exact .inr ⟨_,hH,rfl⟩) (λm r h1=>?_), .undef,hk⟩
      ·simp[execOp,ho,hq,Instr.storeAt,Instr.sureAddr,hrun]
      ·cases h1;have hclen:(a.eval y).cells.toList.length=sz:=by simpa using hsz
       have hxs:xs.length=(be es).length:=by rw[g1,hfl]
       have htk:(cur.toList.take (i*n'+off) ++ (a.eval y).cells.toList++cur.toList.drop (i*n'+off+ (a.eval y).cells.toList.length)).take (es.length*n')=
        xs.take (i*n'+off) ++ (a.eval y).cells.toList++xs.drop (i*n'+off+ (a.eval y).cells.toList.length):=by
        apply qAO;intro k;rw[kS (by omega),qAf,kS (by simp;omega),hclen];by_cases h1:k<es.length*n'
        ·rw[if_pos h1];by_cases h2:i*n'+off<=k/\k<i*n'+off+sz
         ·rw[if_pos h2,if_pos h2]
         ·rw[if_neg h2,if_neg h2,<-g9,qAf,if_pos h1]
        ·rw[if_neg h1,if_neg (by omega)];rw[qAt (by rw[g1];omega)]
       have hnl:(xs.take (i*n'+off) ++ (a.eval y).cells.toList++xs.drop (i*n'+off+ (a.eval y).cells.toList.length)).length=es.length*n':=by
        simp only[qAm,qAq,qA8,hclen,g1];omega
       have hml:(cur.toList.take (i*n'+off) ++ (a.eval y).cells.toList++cur.toList.drop (i*n'+off+ (a.eval y).cells.toList.length)).toArray.size=cap*n':=by
        simp only[qBv,qAm,qAq,qA8,hclen,qAi,g8];omega
       have hfin:i*n'+off+ (ev σ y).cells.length<=(be es).length:=by omega
       refine⟨xs.take (i*n'+off) ++ (a.eval y).cells.toList++xs.drop (i*n'+off+ (a.eval y).cells.toList.length),⟨by rw[qCi];exact hnl, .inr ⟨b,cap,_,by rw[qCi],qAr _,hgh,by simpa using g6,g7,hml,by rw[qCi];exact htk⟩⟩,λd hd=>?_,?_⟩
       ·rcases qA0 hd with hd|rfl
        ·exact g3 d hd
        ·exact⟨he0.1,by rw[he0.2,nS (by omega)];exact hdn⟩
       ·rw[qgh hn0 (λd hd=>(g3 d hd).2) hd he0.2 (by omega)];exact tb hxs (λk y c h1 h2=>⟨(g4 k y c h1 h2).1,m _ _ (g4 k y c h1 h2).2⟩) c1 (λk y c h1 h2=>⟨(c2 k y c h1 h2).1,m _ _ (c2 k y c h1 h2).2⟩) hfin
    ·exact hv.elim
 ·exact hv.elim
theorem UL{n:Nat}{d:D}{x:Value}{K:List D->Prop}(hst:StW E tp H w)(hx:R tp (bh E.O tp H w) w x d)(hn:0<n)(hv:kD n d H K):
 ∃es,K es/\(∀d∈es,d.kn=true/\d.cells.length=n)/\∃(ao:Option Addr) (c:Nat) (news:List Value),x= .slice ao es.length c/\(ao=none->es.length=0)/\news.length=es.length*n/\
  (∀a,ao=some a->∀j u,news[j]? =some u->w.cell? (a.add j)=some u)/\(∀u∈news,u.oneCell'=true)/\bN (R tp (bh E.O tp H w) w) news (be es):=by
 unfold kD at hv;split at hv
 ·rename_i n' es;obtain⟨rfl,hk⟩:=hv;cases hx with
  |nolist ao cap _=>exact⟨[],hk,by simp,ao,cap, [],rfl,λ_=>rfl,by simp,λ_ _ j u h=>by simp at h,by simp,λk y c h=>by simp at h⟩
  | list b off cap _ _ f hI hc hm _ hes hcell hone hr=>
    have hfl:=aY (es:=es) (λd hd=>(hes d hd).2);have hc':∀k,k<es.length*n'->∃c,(be es)[k]? =some c:=λk hk=>⟨(be es)[k]'(by omega),qzX (by omega)⟩
    refine⟨es,hk,hes,some ⟨b,off,none⟩,cap,(List.range (es.length*n')).map f,rfl,(λh=>by cases h),by simp,λa ha j u hu=>?_,λu hu=>?_,λk y c hy hc=>?_⟩
    ·cases ha;rw[lD];rw[qz7]at hu;obtain⟨z,hz,rfl⟩:=aN hu;have hj:j<es.length*n':=by simpa using(qzV.1 hz).1
     rw[qBD hj]at hz;cases hz;obtain⟨c,hc2⟩:=hc' j hj;exact hcell j c hc2
    ·obtain⟨j,hj,rfl⟩:=qz1.1 hu;obtain⟨c,hc2⟩:=hc' j (by simpa using hj);exact hone j c hc2
    ·rw[qz7]at hy;obtain⟨z,hz,rfl⟩:=aN hy;have hj:k<es.length*n':=by simpa using(qzV.1 hz).1
     rw[qBD hj]at hz;cases hz;exact⟨hone k c hc,hr k c hc⟩
 ·rename_i id y;cases hx with
  | own _ _ h1=>
    split at hv
    ·rename_i x' el n' es hH;obtain⟨rfl,rfl,hk⟩:=hv;obtain⟨xs,hown,g3,g4⟩:=hst.sat.ok id _ hH;have hone:∀u∈xs,u.oneCell'=true:=λu hu=>by
      obtain⟨k,hk'⟩:=qAp.1 hu;have hfl:=aY (es:=es) (λd hd=>(g3 d hd).2);have hlt:k<(be es).length:=by rw[hfl,<-hown.1];exact(qzV.1 hk').1
      exact(g4 k u _ hk' (qzX hlt)).1
     have hown2:=hown;obtain⟨g1,g2⟩:=hown;rcases g2 with⟨rfl,h⟩|⟨g,cap,cur,rfl,_⟩
     ·have:es=[]:=qAd h;subst this;exact⟨[],hk,by simp,none,0, [],rfl,λ_=>rfl,by simp,λ_ _ j u h=>by simp at h,by simp,λk y c h=>by simp at h⟩
     ·refine⟨es,hk,g3,some ⟨g,0,none⟩,cap,xs,rfl,(λh=>by cases h),g1,λa ha j u hu=>?_,hone,g4⟩;cases ha;exact hown2.cells rfl j u hu
    ·exact hv.elim
 ·have:=hx.inv_v;subst this;exact⟨[],hv,by simp,none,0, [],rfl,λ_=>rfl,by simp,λ_ _ j u h=>by simp at h,by simp,λk y c h=>by simp at h⟩
 ·rename_i id y n' lo hi;split at hv
  ·rename_i x' el n'' es hH;obtain⟨hxe,rfl,rfl,hk⟩:=hv;subst hxe;obtain⟨xs,hown,g3,g4⟩:=hst.sat.ok id _ hH;have hfl:=aY (es:=es) (λd hd=>(g3 d hd).2);obtain⟨g1,g2⟩:=hown;cases hx with
   |subnil=>exact⟨_,hk,by simp,none,0, [],by simp,λ_=>by simp,by simp,λ_ _ j u h=>by simp at h,by simp,λk y c h=>by simp at h⟩
   | sub _ b len cap _ _ _ p h1 h2 h3 hm hp=>
     rcases g2 with⟨h,_⟩|⟨g,cap',cur,h,_,g5,g6,g7,g8,g9⟩
     ·cases h
     ·cases h;have hcell:=(show w.ownsRow 0 el n'' (.slice (some ⟨b,0,none⟩) es.length cap) es.length xs from⟨g1, .inr ⟨b,cap,cur,rfl,qAr _,g5,g6,g7,g8,g9⟩⟩).cells (g:=b) rfl;have hlen:((es.take hi).drop lo).length=hi -lo:=by simp;omega
      have hmul:(hi -lo) *n''+lo*n''=hi*n'':=by rw[<-qBk];congr 1;omega
      have hmul2:hi*n''<=es.length*n'':=qAy n'' h2;have hflat:∀(k:Nat) (c:D),(be ((es.take hi).drop lo))[k]? =some c->(be es)[lo*n''+k]? =some c:=by
       intro k c hk;rw[Qk (n:=n'') lo (λd hd=>(g3 d (qAl hd)).2)]at hk;exact mJ hk
      have hone:∀(k:Nat) (u:Value),xs[k]? =some u->u.oneCell'=true:=λk u hu=>by
       have hlt:k<(be es).length:=by rw[hfl,<-g1];exact(qzV.1 hu).1
       exact(g4 k u _ hu (qzX hlt)).1
      refine⟨_,hk,λd hd=>g3 d (qAl (qAP hd)),p,cap -lo,(xs.drop (lo*n'')).take ((hi -lo) *n''),by rw[hlen],λhpn=>?_,?_,λa ha j u hu=>?_,λu hu=>?_,λk y c hy hc=>?_⟩
      ·rw[hlen];by_cases hlt:lo<cap
       ·have:=hp (.inl hlt);rw[hpn]at this;cases this
       ·omega
      ·rw[hlen,qAq,qA8,g1];omega
      ·rw[qAf]at hu;split at hu
       ·rename_i hj;rw[qAF]at hu;have hlt:lo<hi:=by
         rcases Nat.lt_or_ge lo hi with h|h
         ·exact h
         ·rw[Nat.sub_eq_zero_of_le h,qCq]at hj;omega
        have:=hp (.inl (by omega));rw[this]at ha;cases ha;have hc:=hcell _ u hu;rw[lD]at hc ⊢;simpa using hc
       ·cases hu
      ·obtain⟨j,hj⟩:=qAp.1 (qAP (qAl hu));exact hone j u hj
      ·rw[qAf]at hy;split at hy
       ·rw[qAF]at hy;exact g4 _ y c hy (hflat k c hc)
       ·cases hy
  ·exact hv.elim
 ·exact hv.elim
theorem qbR{n:Nat}{d:D}{x:Value}{tx:TypeId}{K:List D->Prop}(hst:StW E tp H w)(hk:(∃e',P.underlying tx=some (.slice e'))\/P.underlying tx=some .string)(hx:R tp (bh E.O tp H w) w x d)(hn:0<n)(hv:vM n d H K):
 ∃es,K es/\(∀d∈es,d.kn=true/\d.cells.length=n)/\∃news:List Value,Src P n tx x es.length news w/\bN (R tp (bh E.O tp H w) w) news (be es):=by
 unfold vM at hv;split at hv
 ·rename_i s;obtain⟨rfl,hv⟩:=hv;have hxs:=hx.inv_v;subst hxs;have hsl:(FI s).length=s.size:=by
   unfold FI;rw[qAs,qAi];rfl
  have hfl:be (FI s)=FI s:=by
   unfold FI be
   induction s.data.toList with
   |nil=>rfl
   |cons b l ih=>rw[qAo,qAw,ih];rfl
  refine⟨FI s,hv,λd hd=>?_,byteCells s,⟨hk,λ_=>by rw[hsl];rfl,by rw[hsl];exact firstCells_string s w,by rw[hsl];exact firstCells_string s w.drew,by rw[hsl,byteCells_length,Nat.mul_one],λu hu=>?_⟩,?_⟩
  ·obtain⟨b,_,rfl⟩:=qz1.1 hd;exact⟨rfl,rfl⟩
  ·obtain⟨_,_,rfl⟩:=qz1.1 hu;rfl
  ·rw[hfl];intro k y c hy hc;unfold byteCells at hy;unfold FI at hc;rw[qz7]at hy hc;obtain⟨b,hb,rfl⟩:=aN hy;rw[hb]at hc;cases hc;exact⟨rfl, .int _ _⟩
 ·obtain⟨es,hk1,hes,ao,c,news,hxe,hao,hnl,hnews,hone,hcells⟩:=UL hst hx hn hv;refine⟨es,hk1,hes,news,?_,hcells⟩;subst hxe;cases ao with
  | none=>
    have h0:=hao rfl;have hne:news=[]:=qAd (by rw[hnl,h0];simp);subst hne;rw[h0];exact⟨hk,λ_=>rfl,run_firstCells_none w n 0 0 c,run_firstCells_none w.drew n 0 0 c,by simp,λ_ h=>by cases h⟩
  |some ad=>exact⟨hk,λ_=>rfl,run_firstCells_some w n es.length ad es.length c news hnl (hnews ad rfl),run_firstCells_some w.drew n es.length ad es.length c news hnl (by simpa using hnews ad rfl),hnl,hone⟩
def N6{Q:Value->D->Prop}{xs ys:List Value}{as bs:List D}(h:xs.length=as.length)(h1:bN Q xs as)(h2:bN Q ys bs):bN Q (xs++ys) (as++bs):=by
 intro k y c hy hc;by_cases hk:k<xs.length
 ·rw[qAe hk]at hy;rw[qAe (by omega)]at hc;exact h1 k y c hy hc
 ·rw[qz9 (by omega)]at hy;rw[qz9 (by omega),<-h]at hc;exact h2 _ y c hy hc
theorem P2{t tx el:TypeId}{n bytes:Nat}{z:List Value}{c:Call}{x y:Operand}{K:D->ab->Prop}(hst:StW E tp H w)(ho:o.op= .call c)(hc:c.callee= .builtin .append)(hat:c.argTypes.toList=[t,tx])(hargs:c.args.toList=[x,y])
 (ht:P.underlying t=some (.slice el)) (htx:(∃e',P.underlying tx=some (.slice e'))\/P.underlying tx=some .string) (hs:dn P el=some n) (hz:fp P el=some z) (hby:P.bytesOf el=bytes) (hn:0<n)
 (hx:R tp (bh E.O tp H w) w (a.eval x) (ev σ x)) (hy:R tp (bh E.O tp H w) w (a.eval y) (ev σ y)) {rt:Option Nat} (hv:bk (.append rt el n bytes x y) o.dst σ H K):dB P o a E tp H w K:=by
 obtain⟨cl,⟨args⟩,⟨ats⟩⟩:=c;simp only at hat hargs hc;subst hat;subst hargs;subst hc;simp only[bk]at hv;obtain⟨es2,hv,hes2,news,hsrc,hcells⟩:=qbR hst htx hy hn hv;obtain⟨i,zv,hi,hzv,hzc,hsz,hz1,hz2⟩:=ek hz;have hni:i.size=n:=by
  unfold dn at hs;rw[hi]at hs;simpa using hs
 have hbi:i.bytes=bytes:=by rw[<-hby];simp[Program.bytesOf,hi]
 have hzs:zv.cells.size=i.size:=by rw[hsz,<-hzc];simp
 generalize hq:a.eval x=q at hx;have main:∀(id:Nat) (v:Value) (es:List D) (xs:List Value),q=v->w.ownsRow 0 el n v es.length xs->(∀d∈es,d.kn=true/\d.cells.length=n)->bN (R tp (bh E.O tp H w) w) xs (be es)->
  (∀b,v.ownBlock=some b->∃r,H id=some r/\r.blk=some b)->(es.length+es2.length) *bytes<=140737488355328->es.length+es2.length<=140737488355328->
  (∀v',K (.own id v') (ai H id (some (.row v' el n (es++es2)))))->dB P o a E tp H w K:=by
  intro id v es xs hqv hown hes hc1 hblk hb1 hb2 hk;obtain⟨v',w',r1,r2,r3,r4⟩:=Xr (P:=P) t tx o.type el i zv ht hi hzv hzs v es.length xs (by rw[hni];exact hown) (a.eval y) es2.length news (by rw[hni];exact hsrc) hb2 (by rw[hbi];exact hb1);rw[hni]at r2;have hfl:=aY (es:=es) (λd hd=>(hes d hd).2);have hv1:v'.oneCell'=true:=by
   rcases r2.2 with⟨rfl,_⟩|⟨g,cap,cur,rfl,_⟩ <;>rfl
  refine⟨.value v',v', .own id v',_,w',?_, .inl rfl,hst.own id (some (.row v' el n (es++es2))) r3 hblk (λr b h1 h2=>?_) (λm r h1=>?_), .own _ _ hv1,hk v'⟩
  ·simp[execOp,ho,resolve,invoke,builtin,hq,hqv,r1]
  ·cases h1;rcases r4 b h2 with h3|h3
   ·exact .inl h3
   ·exact .inr (hblk b h3)
  ·cases h1;refine⟨xs++news,by rw[qAm];exact r2,λd hd=>?_,?_⟩
   ·rcases qz5.1 hd with hd|hd
    ·exact hes d hd
    ·exact hes2 d hd
   ·rw[rK];exact N6 (by rw[hown.1,hfl]) (λk y c h1 h2=>⟨(hc1 k y c h1 h2).1,m _ _ (hc1 k y c h1 h2).2⟩) (λk y c h1 h2=>⟨(hcells k y c h1 h2).1,m _ _ (hcells k y c h1 h2).2⟩)
 split at hv
 ·rename_i id v e1;rw[e1]at hx;cases hx with
  | own _ _ h1=>
    split at hv
    ·rename_i x' el' n' es hH;obtain⟨rfl,rfl,rfl,hb1,hb2,hk⟩:=hv;obtain⟨xs,hown,g3,g4⟩:=hst.sat.ok id _ hH;exact main id x' es xs rfl hown g3 g4 (λb hb=>⟨_,hH,hb⟩) hb1 hb2 hk
    ·exact hv.elim
 ·rename_i e1;rw[e1]at hx;have:=hx.inv_v;split at hv
  ·rename_i t' hd;exact main t' (.slice none 0 0) [] [] this (qBw _ _ _ _) (by simp) (λk y c h=>by simp at h) (λb hb=>by simp[Value.ownBlock]at hb) (by simpa using hv.1) (by simpa using hv.2.1) (by simpa using hv.2.2)
  ·exact hv.elim
 ·rename_i id y n' lo up e1;rw[e1]at hx;split at hv
  ·rename_i x' el' n'' es hH;obtain⟨hxe,rfl,rfl,rfl,rfl,hb1,hb2,hk⟩:=hv;subst hxe;obtain⟨xs,hown,g3,g4⟩:=hst.sat.ok id _ hH;have hlen:(es.take up).length<=up:=by simp;omega
   cases hx with
   | subnil=>
     have hes:es=[]:=by
      rcases hown.2 with⟨_,h⟩|⟨g,cap,cur,h,_⟩
      ·exact qAd h
      ·cases h
     subst hes;exact main id (.slice none 0 0) [] [] rfl (qBw _ _ _ _) (by simp) (λk y c h=>by simp at h) (λb hb=>by simp[Value.ownBlock]at hb) (by simpa using hb1) (by simpa using hb2) (by simpa using hk)
   | sub _ b len cap _ _ _ p h1 h2 h3 hm hp=>
     have:=hp (.inr rfl);subst this;obtain⟨g1,g2⟩:=hown;rcases g2 with⟨h,_⟩|⟨g,cap',cur,h,g4',g5,g6,g7,g8,g9⟩
     ·cases h
     ·cases h;have hl:(es.take up).length=up:=by simp;omega
      have hmul2:up*n''<=es.length*n'':=qAy n'' h2;refine main id (.slice (some ⟨b,0*n'',none⟩) (up -0) (cap -0)) (es.take up) (xs.take (up*n'')) rfl ?_ (λd hd=>g3 d (qAl hd)) ?_ (λq hq=>⟨_,hH,by simpa [Value.ownBlock,Res.blk]using hq⟩) (by rw[hl];exact hb1) (by rw[hl];exact hb2) hk
      ·rw[hl];refine⟨by rw[qAq,g1];omega, .inr ⟨b,cap,cur,by simp,qAr _,g5,by omega,g7,g8,?_⟩⟩;rw[<-g9,qCk];congr 1;omega
      ·intro k y c hy hc;rw[qAf]at hy;split at hy
       ·exact g4 k y c hy (mJ hc)
       ·cases hy
  ·exact hv.elim
 ·exact hv.elim
def Wu{n:Nat}{es:List D}{i:Nat}(h:∀d∈es,d.cells.length=n)(hi:i<=es.length):(be es).take (i*n)=be (es.take i)/\(be es).drop (i*n)=be (es.drop i):=by
 have e1:be es=be (es.take i) ++be (es.drop i):=by rw[<-rK,qAz]
 have e2:(be (es.take i)).length=i*n:=by
  rw[aY (λd hd=>h d (qAl hd)),qAq];congr 1;omega
 rw[<-e2];constructor
 ·conv=>lhs;rw[e1]
  exact qB5
 ·conv=>lhs;rw[e1]
  exact List.drop_left
def Wt{n:Nat}{es es2:List D}{lo:Nat}(h:∀d∈es,d.cells.length=n)(h2:∀d∈es2,d.cells.length=n)(hfit:lo+es2.length<=es.length):
 be (es.take lo++es2++es.drop (lo+es2.length))=setAt (be es) (lo*n) (be es2):=by
 unfold setAt;rw[rK,rK,aY h2,<-qBk,(Wu h (by omega)).1,(Wu h hfit).2]
theorem LS(hst:StW E tp H w){id b el n cap lo:Nat}{es es2:List D}(hH:H id=some (.row (.slice (some ⟨b,0,none⟩) es.length cap) el n es))(hes2:∀d∈es2,d.kn=true/\d.cells.length=n)
 {vs:List Value} (hvl:vs.length=es2.length*n) (hvc:bN (R tp (bh E.O tp H w) w) vs (be es2)) (hone:∀u∈vs,u.oneCell'=true) (hfit:lo+es2.length<=es.length):
 ∃w',(storeCells ⟨b,lo*n,none⟩ vs 0).run P w= .ok () w'/\
  (StW E tp (ai H id (some (.row (.slice (some ⟨b,0,none⟩) es.length cap) el n (es.take lo++es2++es.drop (lo+es2.length))))) w'/\
    ∀y e,R tp (bh E.O tp H w) w y e->R tp (bh E.O tp (ai H id (some (.row (.slice (some ⟨b,0,none⟩) es.length cap) el n (es.take lo++es2++es.drop (lo+es2.length))))) w') w' y e):=by
 obtain⟨xs,⟨g1,g2⟩,g3,g4⟩:=hst.sat.ok id _ hH;rcases g2 with⟨h,_⟩|⟨g,cap',cur,hg,g4',g5,g6,g7,g8,g9⟩
 ·cases h
 ·cases hg;have hlen:(es.take lo++es2++es.drop (lo+es2.length)).length=es.length:=by simp;omega
  have hm1:(lo+es2.length) *n<=es.length*n:=qAy n hfit;have hm2:es.length*n<=cap*n:=qAy n g6;rw[qBk]at hm1;have hfl:=aY (es:=es) (λd hd=>(g3 d hd).2);have hfl2:=aY (es:=es2) (λd hd=>(hes2 d hd).2);have hrun:=run_storeCells_at P b (lo*n) el vs 0 cur w g5 (by omega) hone;simp only[qA5]at hrun;have hgh:=setRow_heap w b cur (cur.toList.take (lo*n) ++vs++cur.toList.drop (lo*n+vs.length)).toArray el (0,0) g5;refine⟨_,hrun,hst.own id _ (oU w b _) (λq hq=>by cases hq;exact⟨_,hH,rfl⟩) (λr q h1 h2=>by cases h1;cases h2;exact .inr ⟨_,hH,rfl⟩) (λm r h1=>?_)⟩;cases h1;have hxs:xs.length=(be es).length:=by rw[g1,hfl]
  have htk:(cur.toList.take (lo*n) ++vs++cur.toList.drop (lo*n+vs.length)).take (es.length*n)=xs.take (lo*n) ++vs++xs.drop (lo*n+vs.length):=by
   apply qAO;intro k;rw[kS (by omega),qAf,kS (by simp;omega)];by_cases h1:k<es.length*n
   ·rw[if_pos h1];by_cases h2:lo*n<=k/\k<lo*n+vs.length
    ·rw[if_pos h2,if_pos h2]
    ·rw[if_neg h2,if_neg h2,<-g9,qAf,if_pos h1]
   ·rw[if_neg h1,if_neg (by omega)];rw[qAt (by rw[g1];omega)]
  have hnl:(xs.take (lo*n) ++vs++xs.drop (lo*n+vs.length)).length=es.length*n:=by
   simp only[qAm,qAq,qA8,g1];omega
  have hml:(cur.toList.take (lo*n) ++vs++cur.toList.drop (lo*n+vs.length)).toArray.size=cap*n:=by
   simp only[qBv,qAm,qAq,qA8,qAi,g8];omega
  refine⟨xs.take (lo*n) ++vs++xs.drop (lo*n+vs.length),⟨by rw[hlen];exact hnl, .inr ⟨b,cap,_,by rw[hlen],qAr _,hgh,by rw[hlen];exact g6,g7,hml,by rw[hlen];exact htk⟩⟩,λd hd=>?_,?_⟩
  ·rcases qz5.1 hd with hd|hd
   ·rcases qz5.1 hd with hd|hd
    ·exact g3 d (qAl hd)
    ·exact hes2 d hd
   ·exact g3 d (qAP hd)
  ·rw[Wt (λd hd=>(g3 d hd).2) (λd hd=>(hes2 d hd).2) hfit];exact tb hxs (λk y c h1 h2=>⟨(g4 k y c h1 h2).1,m _ _ (g4 k y c h1 h2).2⟩) (by rw[hvl,hfl2]) (λk y c h1 h2=>⟨(hvc k y c h1 h2).1,m _ _ (hvc k y c h1 h2).2⟩) (by omega)
def qdo{agg:Bool}{z:List Value}{n:Nat}(hzn:z.length=n)(hagg:(agg||decide (n=1))=true)(hz2:z.all (λx=>match x with| .string s=>decide (s.size<=1000000)| .bool _| .int _ _| .pointer _| .slice _ _ _| .nilFunc| .map _=>true|_=>false)=true):
 (Tz agg z).kn=true/\(Tz agg z).cells=z.map qH:=by
 unfold Tz;cases agg with
 |true=>exact⟨rfl,rfl⟩
 | false=>
   have:n=1:=by simpa using hagg
   match z,hzn with
   | [y],_=>
     cases y<;>simp at hz2<;>simp[qH,D.kn,D.cells]
   | [],h=>simp at h;omega
   | _::_::_,h=>simp at h;omega
theorem PO{z:List Value}{n m:Nat}{e0:D}(hn:0<n)(hzn:z.length=n)(he0:e0.kn=true/\e0.cells=z.map qH)(hz2:z.all (λx=>match x with| .string s=>decide (s.size<=1000000)| .bool _| .int _ _| .pointer _| .slice _ _ _| .nilFunc| .map _=>true|_=>false)=true)(hz1:z.all (·.oneCell')=true){I:Nat->Prop} :
 (∀d∈List.replicate m e0,d.kn=true/\d.cells.length=n)/\(Builtin.zeroCells z.toArray m).toList.length=m*n/\bN (R tp I w) (Builtin.zeroCells z.toArray m).toList (be (List.replicate m e0))/\∀u∈ (Builtin.zeroCells z.toArray m).toList,u.oneCell'=true:=by
 have hes:∀d∈List.replicate m e0,d.kn=true/\d.cells.length=n:=λd hd=>by
  have:=qBz hd;subst this;exact⟨he0.1,by rw[he0.2];simp[hzn]⟩
 have hget:∀k,k<m*n->(Builtin.zeroCells z.toArray m).toList[k]? =z[k % n]?:=λk hk=>by
  have hm:k % z.length<z.length:=qBG _ (by omega);simp[Builtin.zeroCells,hzn,hk];rw[<-hzn];simp[hm]
 refine⟨hes,by simp[Builtin.zeroCells,hzn],λk y c hy hc=>?_,λu hu=>?_⟩
 ·obtain⟨d,hd,hdc,hmod,he⟩:=zA hn (λd hd=>(hes d hd).2) hc;have hd':=qBz (qzY hd);subst hd';rw[he0.2]at hdc;have hlt:k<m*n:=by
   have:=(qzV.1 hc).1;rw[aY (λd hd=>(hes d hd).2),qBs]at this;exact this
  rw[hget k hlt]at hy;exact lE hz2 hz1 (k % n) y c hy hdc
 ·obtain⟨k,hk⟩:=qAp.1 hu;have hlt:k<m*n:=by
   have:=(qzV.1 hk).1;simpa [Builtin.zeroCells,hzn]using this
  rw[hget k hlt]at hk;exact qz4.1 hz1 u (qzY hk)
theorem qfh{t el:TypeId}{n:Nat}{agg:Bool}{z:List Value}{c:Call}{x:Operand}{K:D->ab->Prop}(hst:StW E tp H w)(ho:o.op= .call c)(hc:c.callee= .builtin .clear)(hat:c.argTypes.toList=[t])(hargs:c.args.toList=[x])
 (ht:P.underlying t=some (.slice el)) (hs:dn P el=some n) (hz:fp P el=some z) (hn:0<n) (hagg:(agg||decide (n=1))=true)
 (hx:R tp (bh E.O tp H w) w (a.eval x) (ev σ x)) (hv:bk (.clear n agg z x) o.dst σ H K):dB P o a E tp H w K:=by
 obtain⟨cl,⟨args⟩,⟨ats⟩⟩:=c;simp only at hat hargs hc;subst hat;subst hargs;subst hc;simp only[bk]at hv;obtain⟨i,zv,hi,hzv,hzc,hsz,hz1,hz2⟩:=ek hz;have hni:i.size=n:=by
  unfold dn at hs;rw[hi]at hs;simpa using hs
 have hzn:z.length=n:=by omega
 have hzc':zv.cells=z.toArray:=by rw[<-hzc]
 have he0:=qdo hzn hagg hz2;have mt:R tp (bh E.O tp H w) w (.tuple #[]) (.tup []):= .tup [] [] rfl (λk x c h=>by simp at h);generalize hq:a.eval x=q at hx;have nothing:∀(ao:Option Addr) (c:Nat),q= .slice ao 0 c->K (.tup []) H->dB P o a E tp H w K:=λao c hqe hk=>by
  refine⟨.value (.tuple #[]), .tuple #[], .tup [],H,w,?_, .inl rfl,⟨hst,λ_ _ h=>h⟩,mt,hk⟩;cases ao<;>simp[execOp,ho,resolve,invoke,builtin,hq,hqe,Builtin.clear_,run_underlying ht]
 have same:∀(id:Nat) (r:Res),H id=some r->ai H id (some r)=H:=λid r h=>by
  funext j;unfold ai;split
  ·rename_i e;subst e;exact h.symm
  ·rfl
 have main:∀(id b el' cap lo up:Nat) (es:List D),H id=some (.row (.slice (some ⟨b,0,none⟩) es.length cap) el' n es)->lo<=up->up<=es.length->∀(p:Option Addr) (cc:Nat),q= .slice p (up -lo) cc->(lo<up->p=some ⟨b,lo*n,none⟩)->
  K (.tup []) (ai H id (some (.row (.slice (some ⟨b,0,none⟩) es.length cap) el' n (es.take lo++List.replicate (up -lo) (Tz agg z) ++es.drop up))))->dB P o a E tp H w K:=by
  intro id b el' cap lo up es hH hlu hue p cc hqe hp hk;by_cases h0:up=lo
  ·subst h0;rw[qBA]at hqe;refine nothing p cc hqe ?_;rw[qBA,qB3,qA7,qAz,same id _ hH]at hk;exact hk
  ·have hlt:lo<up:=by omega
   have hpe:=hp hlt;subst hpe;obtain⟨r1,r2,r3,r4⟩:=PO (tp:=tp) (w:=w) (m:=up -lo) (I:=bh E.O tp H w) hn hzn he0 hz2 hz1;obtain⟨w',s1,s2⟩:=LS (P:=P) hst (lo:=lo) hH r1 (by rw[qBs];exact r2) r3 r4 (by rw[qBs];omega);rw[qBs,show lo+ (up -lo)=up by omega]at s2;refine⟨.value (.tuple #[]), .tuple #[], .tup [],_,w',?_, .inl rfl,s2,s2.2 _ _ mt,hk⟩;have hne:∃m,up -lo=m+1:=⟨up -lo -1,by omega⟩
   obtain⟨m,hm⟩:=hne;rw[hm]at hqe s1;simp[execOp,ho,resolve,invoke,builtin,hq,hqe,Builtin.clear_,run_underlying ht,zeroValue,typeInfo,hi,hzv,hzc',s1]
 split at hv
 ·rename_i id y e1;rw[e1]at hx;cases hx with
  | own _ _ h1=>
    split at hv
    ·rename_i x' el' n' es hH;obtain⟨hxe,rfl,hk⟩:=hv;subst hxe;obtain⟨xs,⟨g1,g2⟩,g3,g4⟩:=hst.sat.ok id _ hH;rcases g2 with⟨h,h0⟩|⟨g,cap,cur,h,_⟩
     ·have:es=[]:=qAd h0;subst this;refine nothing none 0 h ?_;simp only[qBP,qB3]at hk;rw[same id _ hH]at hk;exact hk
     ·rw[h]at hH hk;exact main id g el' cap 0 es.length es hH (qAr _) (qz2 _) (some ⟨g,0,none⟩) cap (by simpa using h) (λ_=>by simp) (by simpa using hk)
    ·exact hv.elim
 ·rename_i id y n' lo up e1;rw[e1]at hx;split at hv
  ·rename_i x' el' n'' es hH;obtain⟨hxe,rfl,rfl,hk⟩:=hv;subst hxe;obtain⟨xs,⟨g1,g2⟩,g3,g4⟩:=hst.sat.ok id _ hH;cases hx with
   | subnil=>
     rcases g2 with⟨_,h0⟩|⟨g,cap,cur,h,_⟩
     ·have:es=[]:=qAd h0;subst this;refine nothing none 0 rfl ?_;simp only[qBA,qB3,qB9,qBW,qA7]at hk;rw[same id _ hH]at hk;exact hk
     ·cases h
   | sub _ b len cap _ _ _ p h1 h2 h3 hm hp=>
     rcases g2 with⟨h,_⟩|⟨g,cap',cur,h,_⟩
     ·cases h
     ·cases h;exact main id b el' cap lo up es hH h1 h2 p _ rfl (λh=>hp (.inl (by omega))) hk
  ·exact hv.elim
 ·rename_i e1;rw[e1]at hx;exact nothing none 0 hx.inv_v hv
 ·exact hv.elim
theorem qi7{t el:TypeId}{n:Nat}{c:Call}{x y:Operand}{K:D->ab->Prop}(hst:StW E tp H w)(ho:o.op= .call c)(hc:c.callee= .builtin .copy)(hat:c.argTypes.toList=[t,t])(hargs:c.args.toList=[x,y])
 (ht:P.underlying t=some (.slice el)) (hs:dn P el=some n) (hn:0<n)
 (hx:R tp (bh E.O tp H w) w (a.eval x) (ev σ x)) (hy:R tp (bh E.O tp H w) w (a.eval y) (ev σ y)) (hv:bk (.copy n x y) o.dst σ H K):dB P o a E tp H w K:=by
 obtain⟨cl,⟨args⟩,⟨ats⟩⟩:=c;simp only at hat hargs hc;subst hat;subst hargs;subst hc;simp only[bk]at hv;obtain⟨es2,hv,hes2,ao,cc,news,hyv,hao,hnl,hnews,hone,hcells⟩:=UL hst hy hn hv;generalize hq:a.eval x=q at hx;have same:∀(id:Nat) (r:Res),H id=some r->ai H id (some r)=H:=λid r h=>by
  funext j;unfold ai;split
  ·rename_i e;subst e;exact h.symm
  ·rfl
 have nothing:∀(po:Option Addr) (dl c:Nat),q= .slice po dl c->min es2.length dl=0->K (.v (.int .i64 (0:Nat))) H->dB P o a E tp H w K:=λpo dl c hqe h0 hk=>by
  refine⟨.value (.int .i64 (0:Nat)), .int .i64 (0:Nat),_,H,w,?_, .inl rfl,⟨hst,λ_ _ h=>h⟩, .int _ _,hk⟩;have h0':Nat.min es2.length dl=0:=h0;cases po<;>cases ao<;>simp[execOp,ho,resolve,invoke,builtin,hq,hqe,hyv,Builtin.copy_,run_underlying ht,Builtin.lenOf,aW hs,h0',Builtin.firstCells,loadCells,loadCellsFrom,storeCells,goInt]
 have main:∀(id b el' cap lo up:Nat) (es:List D),H id=some (.row (.slice (some ⟨b,0,none⟩) es.length cap) el' n es)->lo<=up->up<=es.length->∀(p:Option Addr) (c:Nat),q= .slice p (up -lo) c->(lo<up->p=some ⟨b,lo*n,none⟩)->
  K (.v (.int .i64 (min es2.length (up -lo):Nat))) (ai H id (some (.row (.slice (some ⟨b,0,none⟩) es.length cap) el' n (es.take lo++es2.take (up -lo) ++es.drop (lo+min es2.length (up -lo))))))->dB P o a E tp H w K:=by
  intro id b el' cap lo up es hH hlu hue p c hqe hp hk;by_cases h0:min es2.length (up -lo)=0
  ·refine nothing p _ c hqe h0 ?_;have ht0:es2.take (up -lo)=[]:=by
    apply qAd;rw[qAq];omega
   rw[h0,ht0,qA7,qA5,qAz,same id _ hH]at hk;exact hk
  ·have hlt:lo<up:=by omega
   have hpe:=hp hlt;subst hpe;have hml:(es2.take (up -lo)).length=min es2.length (up -lo):=by rw[qAq];omega
   have hmle:min es2.length (up -lo) *n<=es2.length*n:=qAy n (Nat.min_le_left _ _);have hvl:(news.take (min es2.length (up -lo) *n)).length=(es2.take (up -lo)).length*n:=by rw[hml,qAq,hnl];omega
   obtain⟨w',s1,s2⟩:=LS (P:=P) hst (lo:=lo) (es2:=es2.take (up -lo)) (vs:=news.take (min es2.length (up -lo) *n)) hH (λd hd=>hes2 d (qAl hd)) hvl (λk y c hy hc=>by
    rw[qAf]at hy;split at hy
    ·exact hcells k y c hy (mJ hc)
    ·cases hy) (λu hu=>hone u (qAl hu)) (by rw[hml];omega)
   rw[hml]at s2;refine⟨.value (.int .i64 (min es2.length (up -lo):Nat)), .int .i64 (min es2.length (up -lo):Nat),_,_,w',?_, .inl rfl,s2, .int _ _,hk⟩;have hao':∃ad,ao=some ad:=by
    cases ao with
    |none=>have:=hao rfl;omega
    |some ad=>exact⟨ad,rfl⟩
   obtain⟨ad,rfl⟩:=hao';have hld:=run_loadCells_list (P:=P) w ad (news.take (min es2.length (up -lo) *n)) (λj v hj=>by
    rw[qAf]at hj;split at hj
    ·exact hnews ad rfl j v hj
    ·cases hj)
   have hnn:(news.take (min es2.length (up -lo) *n)).length=Nat.min es2.length (up -lo) *n:=by rw[hvl,hml]
   rw[hnn]at hld;have hmn:Nat.min es2.length (up -lo)=min es2.length (up -lo):=rfl;simp[execOp,ho,resolve,invoke,builtin,hq,hqe,hyv,Builtin.copy_,run_underlying ht,Builtin.lenOf,aW hs,Builtin.firstCells,hld,s1,goInt,hmn]
 split at hv
 ·rename_i id y' e1;rw[e1]at hx;cases hx with
  | own _ _ h1=>
    split at hv
    ·rename_i x' el' n' es hH;obtain⟨hxe,rfl,hk⟩:=hv;subst hxe;obtain⟨xs,⟨g1,g2⟩,g3,g4⟩:=hst.sat.ok id _ hH;rcases g2 with⟨h,h0⟩|⟨g,cap,cur,h,_⟩
     ·have:es=[]:=qAd h0;subst this;refine nothing none 0 0 h (by simp) ?_;simp only[qBP,Nat.min_zero,qB6,qBW,qA7]at hk;rw[same id _ hH]at hk;exact hk
     ·rw[h]at hH hk;refine main id g el' cap 0 es.length es hH (qAr _) (qz2 _) (some ⟨g,0,none⟩) cap (by simpa using h) (λ_=>by simp) ?_;have:es.drop es2.length=es.drop (min es2.length es.length):=by
       by_cases hle:es2.length<=es.length
       ·rw[Nat.min_eq_left hle]
       ·rw[Nat.min_eq_right (by omega),qBJ (by omega),qBJ (by omega)]
      rw[this]at hk;simpa using hk
    ·exact hv.elim
 ·rename_i id y' n' lo up e1;rw[e1]at hx;split at hv
  ·rename_i x' el' n'' es hH;obtain⟨hxe,rfl,rfl,hk⟩:=hv;subst hxe;obtain⟨xs,⟨g1,g2⟩,g3,g4⟩:=hst.sat.ok id _ hH;cases hx with
   | subnil=>
     rcases g2 with⟨_,h0⟩|⟨g,cap,cur,h,_⟩
     ·have:es=[]:=qAd h0;subst this;refine nothing none 0 0 rfl (by simp) ?_;simp only[qBA,Nat.min_zero,qB6,qB9,qBW,qA7]at hk;rw[same id _ hH]at hk;exact hk
     ·cases h
   | sub _ b len cap _ _ _ p h1 h2 h3 hm hp=>
     rcases g2 with⟨h,_⟩|⟨g,cap',cur,h,_⟩
     ·cases h
     ·cases h;exact main id b el' cap lo up es hH h1 h2 p _ rfl (λh=>hp (.inl (by omega))) hk
  ·exact hv.elim
 ·exact hv.elim
theorem qfi{t u el:TypeId}{n:Nat}{agg:Bool}{kn:IntKind}{z:List Value}{c:Call}{x y:Operand}{K:D->ab->Prop}(hst:StW E tp H w)(ho:o.op= .call c)(hc:c.callee= .builtin .append)(hat:c.argTypes.toList=[t,u])(hargs:c.args.toList=[x,y])
 (ht:P.underlying t=some (.slice el)) (hu:P.underlying u=some (.int kn)) (hs:dn P el=some n) (hz:fp P el=some z) (hn:0<n) (hagg:(agg||decide (n=1))=true)
 (hx:R tp (bh E.O tp H w) w (a.eval x) (ev σ x)) (hy:R tp (bh E.O tp H w) w (a.eval y) (ev σ y)) (hv:bk (.appmk el n (P.bytesOf el) agg z x y) o.dst σ H K):dB P o a E tp H w K:=by
 obtain⟨cl,⟨args⟩,⟨ats⟩⟩:=c;simp only at hat hargs hc;subst hat;subst hargs;subst hc;simp only[bk]at hv;split at hv
 ·rename_i e1;rw[e1]at hx;have hxv:=hx.inv_v;split at hv
  ·rename_i t' kc c hdst e2;obtain⟨h0,hb,h63,hk⟩:=hv;have hyv:a.eval y= .int kc c:=by
    rw[Cp e2]at hy;exact hy.inv_v
   obtain⟨i,zv,hi,hzv,hzc,hsz,hz1,hz2⟩:=ek hz;have hni:i.size=n:=by
    unfold dn at hs;rw[hi]at hs;simpa using hs
   have hbi:i.bytes=P.bytesOf el:=by simp[Program.bytesOf,hi]
   have hzn:z.length=n:=by omega
   have hzc':zv.cells=z.toArray:=by rw[<-hzc]
   have he0:=qdo hzn hagg hz2;obtain⟨m,rfl⟩:∃m:Nat,c=m:=⟨c.toNat,by omega⟩
   rw[qCb]at hk;by_cases hm0:m=0
   ·subst hm0;refine⟨.value (.slice none 0 0), .slice none 0 0, .own t' (.slice none 0 0),_,w,?_, .inl rfl,hst.own t' (some (.row (.slice none 0 0) el n (List.replicate 0 (Tz agg z)))) (ga w none) (λb hb=>by cases hb) (λr b h1 h2=>by cases h1;simp[Res.blk,Value.ownBlock]at h2) (λm r h1=>?_), .own _ _ rfl,hk _⟩
    ·simp[execOp,ho,resolve,invoke,builtin,hxv,hyv,Builtin.append_,run_underlying ht,run_underlying hu,sizeOf,typeInfo,hi,asInt,asIntOf,IntKind.wrap_i64]
    ·cases h1;exact⟨[],qBw _ _ _ _,by simp,λk y c h=>by simp at h⟩
   ·have hb':m*i.bytes<=140737488355328:=by
     rw[hbi];have:((m*P.bytesOf el:Nat):Int)<=140737488355328:=by push_cast;exact hb
     omega
    have hrun:=Lib.run_append_nil_zeros (P:=P) w t u o.type el i zv kc kn ht hu hi hzv m (by omega) (by omega) (by omega) (by omega);rw[hzc']at hrun;obtain⟨r1,r2,r3,r4⟩:=PO (tp:=tp) (w:=w) (m:=m) (I:=bh E.O tp H w) hn hzn he0 hz2 hz1;have hge:=grownCap_ge w m 0 el;have hcm:grownCap w m 0 el<=maxLen:=grownCap_le_maxLen w m 0 el (by simp only[maxLen];omega);have hown:(w.drew.alloc (.cells (Builtin.zeroCells z.toArray m++Builtin.zeroCells z.toArray (grownCap w m 0 el -m)) el)).ownsRow 0 el n (.slice (some ⟨w.heap.size,0,none⟩) m (grownCap w m 0 el)) m (Builtin.zeroCells z.toArray m).toList:=by
     refine⟨r2, .inr ⟨w.heap.size,_,_,rfl,qAr _,heap_alloc_new w.drew _,hge,hcm,?_,?_⟩⟩
     ·simp only[qCu,size_zeroCells,qBv,hzn,<-qBk];congr 1;omega
     ·rw[qCm,<-r2];exact qB5
    refine⟨.value (.slice (some ⟨w.heap.size,0,none⟩) m (grownCap w m 0 el)), .slice (some ⟨w.heap.size,0,none⟩) m (grownCap w m 0 el), .own t' _,_,w.drew.alloc (.cells (Builtin.zeroCells z.toArray m++Builtin.zeroCells z.toArray (grownCap w m 0 el -m)) el),?_, .inl rfl,hst.own t' (some (.row (.slice (some ⟨w.heap.size,0,none⟩) m (grownCap w m 0 el)) el n (List.replicate m (Tz agg z)))) (row:=none) ⟨⟨rfl,rfl,rfl,by simp,λk hk _=>qCf w.drew _ k hk⟩,qBe _⟩ (λb hb=>by cases hb) (λr b h1 h2=>?_) (λmv r h1=>?_), .own _ _ rfl,hk _⟩
    ·simp[execOp,ho,resolve,invoke,builtin,hxv,hyv,hrun]
    ·cases h1;simp[Res.blk,Value.ownBlock]at h2;exact .inl (by omega)
    ·cases h1;refine⟨_,by rw[qBs];exact hown,r1,λk y c h1 h2=>⟨(r3 k y c h1 h2).1,mv _ _ (r3 k y c h1 h2).2⟩⟩
  ·exact hv.elim
 ·exact hv.elim
def qcd{t:Nat}{ty:TypeId}{x:Operand}{s:ByteArray}{K:D->ab->Prop}(hst:StW E tp H w)(ho:o.op= .range ty x)(ht:P.underlying ty=some .string)(hx:a.eval x= .string s)
 (hv:∀b,K (.bptr t b 0) (ai H t (some (.iter b s 0)))):dB P o a E tp H w K:=by
 refine⟨_, .pointer (some ⟨w.heap.size,0,none⟩), .bptr t w.heap.size 0,_,w.alloc (.stringIter s 0),?_, .inl rfl,oz (r':= .iter w.heap.size s 0) hst (λb hb=>by cases hb;rfl) (λm=>?_), .bptr _ _ _,hv _⟩
 ·have hrun:=run_range_string (P:=P) w ty s ht;simp only[execOp,ho,hx,qAk,hrun,qz8,qAu];rfl
 ·exact heap_alloc_new _ _
def SB(w:World)(b:Nat)(s:ByteArray)(p:Nat):GrB w (w.iterAt b s p) (some b):=by
 refine⟨⟨rfl,rfl,rfl,by rw[Lib.iterAt_size];exact qz2 _,λk _ hk=>Lib.iterAt_other w b k s p (λe=>hk (by rw[e]))⟩,qz2 _⟩
theorem qfg{x:Operand}{K:D->ab->Prop}(hst:StW E tp H w)(ho:o.op= .next x true)(hx:R tp (bh E.O tp H w) w (a.eval x) (ev σ x))(hv:bk (.snext x) o.dst σ H K):dB P o a E tp H w K:=by
 simp only[bk]at hv;generalize hq:a.eval x=q at hx;split at hv
 ·rename_i id b off e1;rw[e1]at hx;obtain⟨rfl,hv⟩:=hv;cases hx;split at hv
  ·rename_i b' s pos hH;obtain⟨rfl,h1,h2⟩:=hv;have hb:w.heap[b']? =some (.stringIter s pos):=hst.sat.ok id _ hH;by_cases hp:pos<s.size
   ·have hrun:=Lib.run_next_any_at (P:=P) w b' s pos o.type hb hp;have hR:∀(I:Nat->Prop) (w':World),R tp I w' (.tuple #[.bool true, .int .i64 pos, .int .i32 (Utf8.decode s pos).1]) (.tup [.v (.bool true), .v (.int .i64 pos), .v (.int .i32 (Utf8.decode s pos).1)]):=λI w'=>
     .tup [.bool true, .int .i64 pos, .int .i32 (Utf8.decode s pos).1] _ rfl λk y c h1 h2=>by
      match k with
      | 0=>simp at h1 h2;subst h1;subst h2;exact .bool _
      | 1=>simp at h1 h2;subst h1;subst h2;exact .int _ _
      | 2=>simp at h1 h2;subst h1;subst h2;exact .int _ _
      |k+3=>simp at h1
    refine⟨_,_,_,_,w.iterAt b' s (pos+ (Utf8.decode s pos).2),by simp only[execOp,ho,hq,qAk,hrun,qz8,qAu], .inl rfl,hst.own id (some (.iter b' s (pos+ (Utf8.decode s pos).2))) (SB w b' s _) (λb hb=>by cases hb;exact⟨_,hH,rfl⟩) (λr b h1 h2=>by cases h1;cases h2;exact .inr ⟨_,hH,rfl⟩) (λm r h1=>?_),hR _ _,h1 hp⟩;cases h1;exact Lib.iterAt_heap w b' s pos _ hb
   ·have hrun:=Lib.run_next_end_at (P:=P) w b' s pos o.type hb hp;refine⟨_,_,_,_,w,by simp only[execOp,ho,hq,qAk,hrun,qz8,qAu], .inl rfl,⟨hst,λy e h=>h⟩, .tup [.bool false] [.v (.bool false)] rfl (λk y c h1 h2=>by
     match k with
     | 0=>simp at h1 h2;subst h1;subst h2;exact .bool _
     |k+1=>simp at h1),h2 hp⟩
  ·exact hv.elim
 ·exact hv.elim
theorem Wj{t u el:TypeId}{x:Operand}{K:D->Prop}(hst:StW E tp H w)(ho:o.op= .convert t u x)(h1:P.underlying t=some .string)(h2:P.underlying u=some (.slice el))(h3:P.underlying el=some (.int .u8))
 (hx:R tp (bh E.O tp H w) w (a.eval x) (ev σ x)) {Hr:ab} (hv:aj (.sbytes x) σ Hr K):GoodN P o a E tp H w K:=by
 simp only[aj]at hv;split at hv
 ·rename_i s e1;rw[e1]at hx;obtain⟨hxs,hsz⟩:=hx.inv_str;have hrun:=run_bytes_of_string (P:=P) w t u el s h1 h2 h3;generalize hC:bytesRow s (grownCap w s.size 0 el)=C at hrun;generalize hcap:grownCap w s.size 0 el=cap at hrun hC;have hcm:cap<=maxLen:=by rw[<-hcap];exact grownCap_le_maxLen w _ _ _ hsz
  have hcg:s.size<=cap:=by rw[<-hcap];exact grownCap_ge w _ _ _
  have hgw:GrB w (w.drew.alloc (.cells C el (C.size,C.size+1))) none:=by
   have:=qB2 w.drew (.cells C el (C.size,C.size+1)) none;exact⟨⟨this.os,this.tape,this.output,this.size,this.block⟩,qBe _⟩
  have hlen:(s.data.toList.map λc=>D.v (.int .u8 c.toNat)).length=s.size:=by
   rw[qAs,qAi];rfl
  have hfl:be (s.data.toList.map λc=>D.v (.int .u8 c.toNat))=s.data.toList.map λc=>D.v (.int .u8 c.toNat):=by
   unfold be;generalize s.data.toList=l
   induction l with
   |nil=>rfl
   |cons c l ih=>simp only[qAo,qAw,D.cells,ih];rfl
  refine⟨.slice (some ⟨w.heap.size,0,none⟩) s.size cap,_,_,by simp only[execOp,ho,hxs,qAk,hrun,qz8,qAu],hgw,λhst' m=>?_,hv⟩;have hgn:(w.drew.alloc (.cells C el (C.size,C.size+1))).heap[w.heap.size]? =some (.cells C el (C.size,C.size+1)):=heap_alloc_new _ _;have key:∀(k:Nat) (c:D),(be (s.data.toList.map λc=>D.v (.int .u8 c.toNat)))[k]? =some c->∃q:UInt8,c= .v (.int .u8 q.toNat)/\C[k]? =some (.int .u8 q.toNat):=by
   intro k c hk;rw[hfl,qz7]at hk;obtain⟨q,hq,rfl⟩:=qz6.1 hk;refine⟨q,rfl,?_⟩;have hks:k<s.data.size:=by
    have h:=(qzV.1 hq).1;rwa [qAi]at h
   have hqq:s.data[k]? =some q:=by rwa [qAn]at hq
   rw[<-hC,bytesRow,qAM (by simpa using hks),Array.getElem?_map,hqq];rfl
  have hmain:R tp (bh E.O tp H (w.drew.alloc (.cells C el (C.size,C.size+1)))) (w.drew.alloc (.cells C el (C.size,C.size+1))) (.slice (some ⟨w.heap.size,0,none⟩) (s.data.toList.map λc=>D.v (.int .u8 c.toNat)).length cap) (.list 1 (s.data.toList.map λc=> .v (.int .u8 c.toNat))):=by
   refine .list w.heap.size 0 cap 1 _ (λk=>C.getD k undef) ⟨by simp,λh=>?_,λh=>?_,λ⟨i,r,h1,h2⟩=>?_⟩ (by rw[hlen];exact hcg) hcm (λh=>absurd rfl h) (λd hd=>?_) (λk c hk=>?_) (λk c hk=>?_) (λk c hk=>?_)
   ·have:=hst.hO _ h;have:=hst.step.size;omega
   ·have:=hst.tpl.1 _ h;omega
   ·have:=(hst.sat.ok i r h1).lt h2;omega
   ·obtain⟨c,_,rfl⟩:=qz1.1 hd;exact⟨rfl,rfl⟩
   all_goals
    obtain⟨q,e2,e3⟩:=key k c hk;have hg:C.getD k undef= .int .u8 q.toNat:=by rw[qAv,e3];rfl
    try dsimp only
    rw[hg]
   ·rw[qAG,cell_of_row _ _ k C el _ hgn];exact e3
   ·rfl
   ·rw[e2];exact .int _ _
  rw[hlen]at hmain;exact hmain
 ·exact hv.elim
def PM(s:ByteArray):∀(bound i:Nat) (acc:Array Value),(∀x∈acc.toList,∃n,x= .int .i32 n)->∀x∈ (Conv.runesFrom s bound i acc).toList,∃n,x= .int .i32 n
 | 0,_,acc,h=>by simpa [Conv.runesFrom]using h
 | bound+1,i,acc,h=>by
   unfold Conv.runesFrom;split
   ·refine PM s bound _ _ λx hx=>?_
    rw[qCc,qz5,qA9]at hx;rcases hx with hx|rfl
    ·exact h x hx
    ·exact⟨_,rfl⟩
   ·exact h
theorem Wi{t u el:TypeId}{x:Operand}{K:D->Prop}(hst:StW E tp H w)(ho:o.op= .convert t u x)(h1:P.underlying t=some .string)(h2:P.underlying u=some (.slice el))(h3:P.underlying el=some (.int .i32))
 (hx:R tp (bh E.O tp H w) w (a.eval x) (ev σ x)) {Hr:ab} (hv:aj (.srunes x) σ Hr K):GoodN P o a E tp H w K:=by
 simp only[aj]at hv;split at hv
 ·rename_i s e1;rw[e1]at hx;obtain⟨hxs,hsz⟩:=hx.inv_str;have hrs:(Conv.runesFrom s s.size 0 #[]).size<=s.size:=by have:=size_runesFrom s s.size 0 #[];simpa using this
  have hrb:=hv.1;replace hv:=hv.2;have hint:∀x∈ (Conv.runesFrom s s.size 0 #[]).toList,∃n,x= .int .i32 n:=PM s _ _ _ (λx h=>by simp at h);have hrun:=run_runes_of_string (P:=P) w t u el s h1 h2 h3 (qAx (qAx hrs hrb) (by decide));generalize hQ:Conv.runesFrom s s.size 0 #[]=q at hrun hrs hint hv;generalize hcap:grownCap w q.size 0 el=cap at hrun;have hcm:cap<=maxLen:=by rw[<-hcap];exact grownCap_le_maxLen w _ _ _ (qAx hrs hsz)
  have hcg:q.size<=cap:=by rw[<-hcap];exact grownCap_ge w _ _ _
  generalize hC:q++Array.replicate (cap -q.size) (.int .i32 0)=C at hrun;have hgw:GrB w (w.drew.alloc (.cells C el)) none:=by
   have:=qB2 w.drew (.cells C el) none;exact⟨⟨this.os,this.tape,this.output,this.size,this.block⟩,qBe _⟩
  have hlen:(q.toList.map D.v).length=q.size:=by
   rw[qAs,qAi]
  have hfl:be (q.toList.map D.v)=q.toList.map D.v:=by
   unfold be;generalize q.toList=l
   induction l with
   |nil=>rfl
   |cons c l ih=>simp only[qAo,qAw,D.cells,ih];rfl
  refine⟨.slice (some ⟨w.heap.size,0,none⟩) q.size cap,_,_,by simp only[execOp,ho,hxs,qAk,hrun,qz8,qAu],hgw,λhst' m=>?_,hv⟩;have hgn:(w.drew.alloc (.cells C el)).heap[w.heap.size]? =some (.cells C el (0,0)):=heap_alloc_new _ _;have key:∀(k:Nat) (c:D),(be (q.toList.map D.v))[k]? =some c->∃n:Int,c= .v (.int .i32 n)/\C[k]? =some (.int .i32 n):=by
   intro k c hk;rw[hfl,qz7]at hk;obtain⟨y,hy,rfl⟩:=qz6.1 hk;obtain⟨n,rfl⟩:=hint y (qzY hy);refine⟨n,rfl,?_⟩;have hks:k<q.size:=by
    have h:=(qzV.1 hy).1;rwa [qAi]at h
   rw[<-hC,qAM hks];rwa [qAn]at hy
  have hmain:R tp (bh E.O tp H (w.drew.alloc (.cells C el))) (w.drew.alloc (.cells C el)) (.slice (some ⟨w.heap.size,0,none⟩) (q.toList.map D.v).length cap) (.list 1 (q.toList.map D.v)):=by
   refine .list w.heap.size 0 cap 1 _ (λk=>C.getD k undef) ⟨by simp,λh=>?_,λh=>?_,λ⟨i,r,h1,h2⟩=>?_⟩ (by rw[hlen];exact hcg) hcm (λh=>absurd rfl h) (λd hd=>?_) (λk c hk=>?_) (λk c hk=>?_) (λk c hk=>?_)
   ·have:=hst.hO _ h;have:=hst.step.size;omega
   ·have:=hst.tpl.1 _ h;omega
   ·have:=(hst.sat.ok i r h1).lt h2;omega
   ·obtain⟨c,_,rfl⟩:=qz1.1 hd;exact⟨rfl,rfl⟩
   all_goals
    obtain⟨q,e2,e3⟩:=key k c hk;have hg:C.getD k undef= .int .i32 q:=by rw[qAv,e3];rfl
    try dsimp only
    rw[hg]
   ·rw[qAG,cell_of_row _ _ k C el _ hgn];exact e3
   ·rfl
   ·rw[e2];exact .int _ _
  rw[hlen]at hmain;exact hmain
 ·exact hv.elim
end
end Go.Gv
