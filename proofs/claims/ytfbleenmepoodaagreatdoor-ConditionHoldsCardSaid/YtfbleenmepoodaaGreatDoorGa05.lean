/- A part of the framework and of the walks: S4 S5. -/
import Derived.Deep.AppendSrc
import Derived.Test.YtfbleenmepoodaaGreatDoorGa04
set_option linter.unusedSimpArgs false
set_option linter.unusedVariables false
set_option linter.unusedSectionVars false
set_option linter.defProp false
namespace Go.Gv
def jE(off:Nat):∀ (l:List (Value×Nat)) (cells:Array Value),(l.foldl (λcs p=>cs.setIfInBounds (off+p.2) p.1) cells).size=cells.size
 | [],_=>rfl
 | p::l,cells=>by rw[qlC,jE off l];simp
theorem pa(off:Nat):∀ (l:List Value) (s:Nat) (cells:Array Value) (k:Nat),off+s+l.length<=cells.size->
 ((l.zipIdx s).foldl (λcs p=>cs.setIfInBounds (off+p.2) p.1) cells)[k]? =if off+s<=k/\k < off+s+l.length then l[k - (off+s)]? else cells[k]?
 | [],s,cells,k,h=>by
   simp;intro h1 h2;omega
 | v::l,s,cells,k,h=>by
   simp only[qkn]at h;rw[List.zipIdx_cons,qlC,pa off l (s+1) _ k (by simp;omega)];by_cases h1:off+ (s+1)<=k/\k < off+ (s+1) +l.length
   ·rw[if_pos h1,if_pos (by simp;omega)];have:k - (off+s)=(k - (off+ (s+1))) +1:=by omega
    rw[this,qkY]
   ·rw[if_neg h1];simp only[qkG];by_cases h2:off+s=k
    ·subst h2;have:off+s < cells.size:=by omega
     simp[this]
    ·rw[if_neg h2];rw[if_neg (by simp;omega)]
def Ak{place:Nat->Option (Nat×Nat)}{cells:Array Value}{i off sz:Nat}{v:Value}{rest:List (Nat×Value)}(hp:place i=some (off,sz))(hsz:v.cells.size=sz)(hfit:off+sz<=cells.size):
 Instr.fill place cells ((i,v)::rest)=Instr.fill place ((v.cells.toList.zipIdx 0).foldl (λcs p=>cs.setIfInBounds (off+p.2) p.1) cells) rest:=by
 simp only[Instr.fill,hp];rw[if_neg (by simp;omega)];congr 1;rw[<-Array.foldl_toList,Array.toList_zipIdx]
section
variable {P:Program}{o:Oper}{a:Act}{tp I:Nat->Prop}{w:World}{σ:Sg}{K:D->Prop}
theorem uv{Q:Value->D->Prop}{cells cells':Array Value}{ds:List D}{new:List D}{nv:List Value}{off:Nat}(hl:cells.size=ds.length)(h:ba Q cells.toList ds)(hn:nv.length=new.length)(hq:ba Q nv new)
 (hfit:off+new.length<=ds.length) (hc:∀k:Nat,cells'[k]? =if off<=k/\k < off+nv.length then nv[k -off]? else cells[k]?):ba Q cells'.toList (setAt ds off new):=by
 intro k y c hy hc2;simp only[qj6]at hy;rw[hc k]at hy;simp only[Gv.setAt]at hc2;split at hy
 ·rename_i hk;rw[qkg,qjK (by simp;omega)]at hc2;have e:(ds.take off).length=off:=by simp;omega
  rw[e,qjQ (by omega)]at hc2;exact hq _ y c hy hc2
 ·rename_i hk;refine h k y c (by simpa using hy) ?_;by_cases h1:k < off
  ·rw[qkg,qjQ (by simp;omega),qjS,if_pos h1]at hc2;exact hc2
  ·rw[qjK (by simp;omega),qkb]at hc2;have e:(ds.take off++new).length=off+new.length:=by simp;omega
   rw[e]at hc2;have e2:off+new.length+ (k - (off+new.length))=k:=by omega
   rw[e2]at hc2;exact hc2
def zR{l new:List D}{off:Nat}(h:off+new.length<=l.length)(k:Nat):(setAt l off new)[k]? =if off<=k/\k < off+new.length then new[k -off]? else l[k]?:=by
 have e1:(l.take off).length=off:=by simp;omega
 have e2:(l.take off++new).length=off+new.length:=by simp;omega
 simp only[setAt];by_cases h1:k < off
 ·rw[qkg,qjQ (by omega),qjS,if_pos h1,if_neg (by omega)]
 ·by_cases h2:k < off+new.length
  ·rw[qkg,qjK (by omega),e1,qjQ (by omega),if_pos (by omega)]
  ·rw[qjK (by omega),qkb,e2,if_neg (by omega)];congr 1;omega
def ji{ds new:List D}{off:Nat}(h:off+new.length<=ds.length):(setAt ds off new).length=ds.length:=by
 simp[setAt];omega
theorem Kb{fs:Array Field}{places:List (Nat×Nat)}(hpl:∀ (i:Nat) (f:Field) (sz:Nat),fs[i]? =some f->cj P f.type=some sz->places[i]? =some (f.offset,sz))(N:Nat):
 ∀ (parts:List (Nat×Operand)) (ps:List (Nat×Nat×Operand)),(∀p∈parts,R tp I w (a.eval p.2) (ev σ p.2))->
  parts.mapM (λp=>do
   let f <-fs[p.1]?
   let sz <-cj P f.type
   if f.offset+sz<=N then some (f.offset,sz,p.2)else none)=some ps->
  ∀ (cs:Array Value) (ds:List D) (K':List D->Prop),cs.size=N->ds.length=N->ba (R tp I w) cs.toList ds->gg σ ps ds K'->
   ∃cs' ds',Instr.fill (λi=>places[i]?) cs (parts.map λp=>(p.1,a.eval p.2))=some cs'/\cs'.size=N/\ds'.length=N/\ba (R tp I w) cs'.toList ds'/\K' ds'
 | [],ps,_,hm,cs,ds,K',h1,h2,h3,hv=>by
   simp at hm;subst hm;exact⟨cs,ds,rfl,h1,h2,h3,hv⟩
 | p::parts,ps,hr,hm,cs,ds,K',h1,h2,h3,hv=>by
   rw[qkd]at hm;simp only[qjB,qjy,Option.pure_def]at hm;obtain⟨q,⟨f,hf,sz,hsz,hq⟩,rest,hrest,hps⟩:=hm;split at hq
   ·rename_i hfit;cases hq;cases hps;obtain⟨k1,k2,hv⟩:=hv;have hR:=hr p (by simp);obtain⟨c1,c2⟩:=hR.cells k1;have hsize:(a.eval p.2).cells.size=sz:=by rw[<-k2,<-c1];simp
    have hst:=Ak (place:=λi=>places[i]?) (cells:=cs) (i:=p.1) (v:=a.eval p.2) (rest:=parts.map λp=>(p.1,a.eval p.2)) (hpl p.1 f sz hf hsz) hsize (by omega);have hlen:(a.eval p.2).cells.toList.length=sz:=by simpa using hsize
    have hget:=pa f.offset (a.eval p.2).cells.toList 0 cs;have hcs':ba (R tp I w) (((a.eval p.2).cells.toList.zipIdx 0).foldl (λcs p=>cs.setIfInBounds (f.offset+p.2) p.1) cs).toList (setAt ds f.offset (ev σ p.2).cells):=
     uv (cells:=cs) (nv:=(a.eval p.2).cells.toList) (by omega) h3 (by omega) c2 (by omega) (λk=>by
      have:=hget k (by omega);simpa using this)
    obtain⟨cs',ds',r1,r2,r3,r4,r5⟩:=Kb hpl N parts rest (λq hq=>hr q (by simp[hq])) hrest _ _ K' (by rw[jE];exact h1) (by rw[ji (by omega)];exact h2) hcs' hv;exact⟨cs',ds',by rw[qj2,hst];exact r1,r2,r3,r4,r5⟩
   ·cases hq
theorem Fv(sz:Nat)(N:Nat):
 ∀ (parts:List (Nat×Operand)) (ps:List (Nat×Nat×Operand)),(∀p∈parts,R tp I w (a.eval p.2) (ev σ p.2))->
  parts.mapM (λp=>if p.1*sz+sz<=N then some (p.1*sz,sz,p.2)else none)=some ps->
  ∀ (cs:Array Value) (ds:List D) (K':List D->Prop),cs.size=N->ds.length=N->ba (R tp I w) cs.toList ds->gg σ ps ds K'->
   ∃cs' ds',Instr.fill (λi=>some (i*sz,sz)) cs (parts.map λp=>(p.1,a.eval p.2))=some cs'/\cs'.size=N/\ds'.length=N/\ba (R tp I w) cs'.toList ds'/\K' ds'
 | [],ps,_,hm,cs,ds,K',h1,h2,h3,hv=>by
   simp at hm;subst hm;exact⟨cs,ds,rfl,h1,h2,h3,hv⟩
 | p::parts,ps,hr,hm,cs,ds,K',h1,h2,h3,hv=>by
   rw[qkd]at hm;simp only[qjB,qjy,Option.pure_def]at hm;obtain⟨q,hq,rest,hrest,hps⟩:=hm;split at hq
   ·rename_i hfit;cases hq;cases hps;obtain⟨k1,k2,hv⟩:=hv;have hR:=hr p (by simp);obtain⟨c1,c2⟩:=hR.cells k1;have hsize:(a.eval p.2).cells.size=sz:=by rw[<-k2,<-c1];simp
    have hst:=Ak (place:=λi=>some (i*sz,sz)) (cells:=cs) (i:=p.1) (v:=a.eval p.2) (rest:=parts.map λp=>(p.1,a.eval p.2)) rfl hsize (by omega);have hlen:(a.eval p.2).cells.toList.length=sz:=by simpa using hsize
    have hget:=pa (p.1*sz) (a.eval p.2).cells.toList 0 cs;have hcs':ba (R tp I w) (((a.eval p.2).cells.toList.zipIdx 0).foldl (λcs q=>cs.setIfInBounds ((p.1*sz) +q.2) q.1) cs).toList (setAt ds (p.1*sz) (ev σ p.2).cells):=
     uv (cells:=cs) (nv:=(a.eval p.2).cells.toList) (by omega) h3 (by omega) c2 (by omega) (λk=>by
      have:=hget k (by omega);simpa using this)
    obtain⟨cs',ds',r1,r2,r3,r4,r5⟩:=Fv sz N parts rest (λq hq=>hr q (by simp[hq])) hrest _ _ K' (by rw[jE];exact h1) (by rw[ji (by omega)];exact h2) hcs' hv;exact⟨cs',ds',by rw[qj2,hst];exact r1,r2,r3,r4,r5⟩
   ·cases hq
def gV{z:List Value}(h:z.all (λx=>match x with| .string s=>decide (s.size<=1000000)| .bool _| .int _ _| .pointer _| .slice _ _ _| .nilFunc| .map _=>true|_=>false)=true)(h1:z.all (·.oneCell')=true):ba (R tp I w) z (z.map lL):=by
 intro k y c hy hc;rw[qjU,hy]at hc;cases hc;have hm:=qjD hy;refine⟨qjF.1 h1 y hm,Wf y (λs hs=>?_)⟩;have:=qjF.1 h y hm;subst hs;have:s.size<=1000000:=by simpa using this
 simp only[maxLen];omega
def cN{t:TypeId}{z:List Value}(h:dt P t=some z):∃i zv,P.info? t=some i/\i.zero=some zv/\zv.cells.toList=z/\i.size=z.length/\z.all (·.oneCell')=true/\
 z.all (λx=>match x with| .string s=>decide (s.size<=1000000)| .bool _| .int _ _| .pointer _| .slice _ _ _| .nilFunc| .map _=>true|_=>false)=true:=by
 unfold dt at h;simp only[qjB,qjy]at h;obtain⟨i,hi,zv,hz,h⟩:=h;split at h
 ·rename_i hc;cases h;simp only[qjE,beq_iff_eq]at hc;exact⟨i,zv,hi,hz,rfl,by rw[qjT];exact hc.1.2.symm,hc.1.1,hc.2⟩
 ·cases h
theorem L9{t:TypeId}{parts:Array (Nat×Operand)}{fs:Array Field}{z:List Value}{ps:List (Nat×Nat×Operand)}(ho:o.op= .build t parts)(hz:dt P t=some z)(ht:P.underlying t=some (.struct fs))
 (hps:parts.toList.mapM (λp=>do
   let f <-fs[p.1]?
   let sz <-cj P f.type
   if f.offset+sz<=z.length then some (f.offset,sz,p.2)else none)=some ps)
 (hall:fs.toList.all (λf=>(cj P f.type).isSome)=true) (hr:∀p∈parts.toList,R tp I w (a.eval p.2) (ev σ p.2)) {H:aa} (hv:ah (.build z ps) σ H K):Good P o a tp I w K:=by
 simp only[ah]at hv;obtain⟨i,zv,hi,hzv,hzc,hsz,hz1,hz2⟩:=cN hz;have places:∀ (l:List Field),l.all (λf=>(cj P f.type).isSome)=true->∃pl,l.mapM (λf=>(P.info? f.type).map λi=>(f.offset,i.size))=some pl/\∀ (i:Nat) (f:Field) (sz:Nat),l[i]? =some f->cj P f.type=some sz->pl[i]? =some (f.offset,sz):=by
  intro l
  induction l with
  | nil=>intro _;exact⟨[],by simp,λi f sz h=>by simp at h⟩
  | cons f l ih=>
    intro h;simp only[qls,qjE]at h;obtain⟨pl,e1,e2⟩:=ih h.2;obtain⟨sz,hs⟩:=qkk.1 h.1;have hs':=hs;unfold cj at hs';obtain⟨ii,hii,hsz'⟩:=ay hs';refine⟨(f.offset,sz)::pl,by simp[qkd,hii,e1,hsz'],λj g sg hj hg=>?_⟩;cases j with
    | zero=>simp at hj;subst hj;rw[hs]at hg;cases hg;rfl
    | succ j=>simp at hj;simpa using e2 j g sg hj hg
 obtain⟨pl,hpl1,hpl2⟩:=places fs.toList hall;obtain⟨cs',ds',r1,r2,r3,r4,r5⟩:=Kb (P:=P) (fs:=fs) (places:=pl) (λi f sz h1 h2=>hpl2 i f sz (by simpa using h1) h2) z.length parts.toList ps hr hps zv.cells (z.map lL) _ (by rw[<-qjT,hzc]) (by simp) (by rw[hzc];exact gV hz2 hz1) hv;have hb:P.built t (parts.map λ(i,x)=>(i,a.eval x)).toList=some cs':=by
  unfold Program.built;simp only[hi,ht,hzv,hpl1];simpa using r1
 refine⟨.agg cs', .agg ds',by simp[execOp,ho,run_build w t _ cs' hb],?_,r5⟩;have:=R.agg (tp:=tp) (I:=I) (w:=w) cs'.toList ds' (by rw[qjT];omega) (λx hx=>?_) (λk x c h1 h2=>(r4 k x c h1 h2).2)
 ·simpa using this
 ·obtain⟨k,hk⟩:=qjY.1 hx;have hlt:k < ds'.length:=by
   have:=(qjA.1 hk).1;rw[qjT]at this;omega
  exact(r4 k x _ hk (qjC hlt)).1
def GoodN(P:Program)(o:Oper)(a:Act)(E:sw)(tp:Nat->Prop)(H:aa)(w:World)(K:D->Prop):Prop:=
 ∃x d w',(execOp a.eval o).run P w= .ok (.value x) w'/\GrB w w' none/\(StW E tp H w'->(∀y e,R tp (aI E.O tp H w) w y e->R tp (aI E.O tp H w') w' y e)->R tp (aI E.O tp H w') w' x d)/\K d
theorem J5{t el:TypeId}{parts:Array (Nat×Operand)}{len sz:Nat}{z:List Value}{ps:List (Nat×Nat×Operand)}(ho:o.op= .build t parts)(hz:dt P t=some z)(ht:P.underlying t=some (.array len el))(hs:cj P el=some sz)
 (hps:parts.toList.mapM (λp=>if p.1*sz+sz<=z.length then some (p.1*sz,sz,p.2)else none)=some ps)
 (hr:∀p∈parts.toList,R tp I w (a.eval p.2) (ev σ p.2)) {H:aa} (hv:ah (.build z ps) σ H K):Good P o a tp I w K:=by
 simp only[ah]at hv;obtain⟨i,zv,hi,hzv,hzc,hsz,hz1,hz2⟩:=cN hz;have hs':=hs;unfold cj at hs';obtain⟨ie,hie,hse⟩:=ay hs';subst hse;obtain⟨cs',ds',r1,r2,r3,r4,r5⟩:=Fv ie.size z.length parts.toList ps hr hps zv.cells (z.map lL) _ (by rw[<-qjT,hzc]) (by simp) (by rw[hzc];exact gV hz2 hz1) hv;have hb:P.built t (parts.map λ(i,x)=>(i,a.eval x)).toList=some cs':=by
  unfold Program.built;simp only[hi,ht,hzv,hie];simpa using r1
 refine⟨.agg cs', .agg ds',by simp[execOp,ho,run_build w t _ cs' hb],?_,r5⟩;have:=R.agg (tp:=tp) (I:=I) (w:=w) cs'.toList ds' (by rw[qjT];omega) (λx hx=>?_) (λk x c h1 h2=>(r4 k x c h1 h2).2)
 ·simpa using this
 ·obtain⟨k,hk⟩:=qjY.1 hx;have hlt:k < ds'.length:=by
   have:=(qjA.1 hk).1;rw[qjT]at this;omega
  exact(r4 k x _ hk (qjC hlt)).1
def Good.toN{E:sw}{H:aa}(h:Good P o a tp (aI E.O tp H w) w K):GoodN P o a E tp H w K:=by
 obtain⟨x,d,h1,h2,h3⟩:=h;exact⟨x,d,w,h1,dV _ _,λ_ m=>m _ _ h2,h3⟩
def Nk{E:sw}{H:aa}{ob:Obj}(hst:StW E tp H w):aI E.O tp H (w.alloc ob) w.heap.size:=by
 have hw:E.w0.heap.size<=w.heap.size:=hst.step.size;refine⟨by simp,λh=>by have:=hst.hO _ h;omega,λh=>by have:=hst.tpl.1 _ h;omega,λ⟨i,r,h1,h2⟩=>by have:=(hst.sat.ok i r h1).lt h2;omega⟩
theorem O9{el:TypeId}{x:Operand}{E:sw}{H:aa}(hst:StW E tp H w)(ho:o.op= .box el x)(hx:R tp (aI E.O tp H w) w (a.eval x) (ev σ x))(hv:ah (.box el true x) σ H K):GoodN P o a E tp H w K:=by
 simp only[ah]at hv;obtain⟨hk,hv⟩:=hv;refine⟨.pointer (some ⟨w.heap.size,0,none⟩),_,w.alloc (.cells (a.eval x).cells el),by simp[execOp,ho,Instr.box,newVar,newRow],GrB.alloc _ _ _,λhst' m=>?_,hv⟩;obtain⟨c1,c2⟩:=(m _ _ hx).cells hk;have hg:(w.alloc (.cells (a.eval x).cells el)).heap[w.heap.size]? =some (.cells (a.eval x).cells el (0,0)):=heap_alloc_new _ _;obtain⟨f,k1,k2,k3⟩:=qz hg (by rw[<-c1];simp) c2;have:=R.cptr (tp:=tp) w.heap.size 0 (ev σ x).cells 0 f (Nk hst) (λ_=>⟨_,_,hg⟩) k1 k2 k3;simpa using this
theorem Dq{n:Nat} :∀ (vs:List Value) (s:Nat) (cells:Array Value),(∀v∈vs,v.cells.size=n)->(s+vs.length) *n<=cells.size->
 ∃cells',Instr.fill (λi=>some (i*n,n)) cells ((List.range' s vs.length).zip vs)=some cells'/\cells'.size=cells.size/\(∀k,k < s*n->cells'[k]? =cells[k]?)/\
  ∀i j v,vs[i]? =some v->j < n->cells'[(s+i) *n+j]? =v.cells[j]?
 | [],s,cells,_,_=>⟨cells,rfl,rfl,λ_ _=>rfl,λi j v h=>by simp at h⟩
 | v::vs,s,cells,hn,hfit=>by
   have hv:=hn v (by simp);simp only[qkn]at hfit;have hfit':s*n+n<=cells.size:=by
    have:(s+ (vs.length+1)) *n=s*n+n+vs.length*n:=by rw[qkH,qkj];omega
    omega
   have hst:=Ak (place:=λi=>some (i*n,n)) (cells:=cells) (i:=s) (v:=v) (rest:=(List.range' (s+1) vs.length).zip vs) rfl hv hfit';have hget:=pa (s*n) v.cells.toList 0 cells;obtain⟨c',r1,r2,r3,r4⟩:=Dq vs (s+1) ((v.cells.toList.zipIdx 0).foldl (λcs p=>cs.setIfInBounds (s*n+p.2) p.1) cells) (λu hu=>hn u (by simp[hu])) (by
    rw[jE];have:(s+1+vs.length) *n=(s+ (vs.length+1)) *n:=by congr 1;omega
    omega)
   refine⟨c',?_,by rw[r2,jE],λk hk=>?_,λi j u hu hj=>?_⟩
   ·simp only[qkn,qlj,List.zip_cons_cons];rw[hst];exact r1
   ·rw[r3 k (by rw[qkj];omega),hget k (by simp;omega)];rw[if_neg (by omega)]
   ·cases i with
    | zero=>
      simp at hu;subst hu;rw[qkK,r3 _ (by rw[qkj];omega),hget _ (by simp;omega),if_pos (by simp;omega)];simp
    | succ i=>
      simp at hu;have:=r4 i j u hu hj;have e:s+ (i+1)=s+1+i:=by omega
      rw[e];exact this
def rc{n:Nat} :∀ {l:List D},fW n l->∀d∈l,d.kn=true/\d.cells.length=n
 | [],_,d,hd=>by simp at hd
 | e::l,h,d,hd=>by
   rcases qjW.1 hd with rfl|hd
   ·exact⟨h.1,h.2.1⟩
   ·exact rc h.2.2 d hd
def ru{n:Nat}(hn:0 < n){es:List D}(h:∀d∈es,d.cells.length=n){k:Nat}{c:D}(hk:(aR es)[k]? =some c):∃d,es[k/n]? =some d/\d.cells[k % n]? =some c/\k % n < n/\k=k/n*n+k % n:=by
 have hmod:k % n < n:=qk7 _ hn;have he:k=k/n*n+k % n:=by rw[qk5];exact(qlb k n).symm
 rw[he,eF h hmod]at hk;cases hd:es[k/n]? with
 | none=>simp[hd]at hk
 | some d=>rw[hd]at hk;exact⟨d,rfl,hk,hmod,he⟩
theorem J6{t el:TypeId}{n len:Nat}{parts:Array (Nat×Operand)}{ps:List Operand}{E:sw}{H:aa}{z0:List Value}(hst:StW E tp H w)(ho:o.op= .buildSlice t len parts)(ht:P.underlying t=some (.slice el))(hs:cj P el=some n)
 (hz:dt P el=some z0) (hps:pX parts len=some ps) (hlim:len*n<=2^24) (hn:0 < n) (hlen0:len≠0) (hr:∀x∈ps,R tp (aI E.O tp H w) w (a.eval x) (ev σ x)) (hv:ah (.bslice el n ps) σ H K):GoodN P o a E tp H w K:=by
 simp only[ah]at hv;obtain⟨hpv,hv⟩:=hv;unfold pX at hps;split at hps
 ·rename_i hidx;cases hps;have hlen:parts.toList.length=len:=by
   have:=congrArg List.length hidx;simpa using this
  obtain⟨i,zv,hi,hzv,hzc,hsz,hz1,hz2⟩:=cN hz;have hall:=rc hpv;have hvs:∀v∈ (parts.toList.map (·.2)).map a.eval,v.cells.size=n:=by
   intro v hv';obtain⟨x,hx,rfl⟩:=qjN.1 hv';have h1:=hall (ev σ x) (qjN.2 ⟨x,hx,rfl⟩);have:=((hr x hx).cells h1.1).1;rw[<-h1.2,<-this];simp
  have hz0:z0.length=n:=by
   unfold cj at hs;rw[hi]at hs;simp at hs;omega
  have hzv0:¬ (len*n=0):=by
   intro h;rcases Nat.mul_eq_zero.1 h with h|h <;> omega
  obtain⟨cells',r1,r2,r3,r4⟩:=Dq (n:=n) ((parts.toList.map (·.2)).map a.eval) 0 ((Array.range (len*n)).map (zv.cells[· % zv.cells.size]!)) hvs (by simp[hlen]);have hparts:(List.range' 0 ((parts.toList.map (·.2)).map a.eval).length).zip ((parts.toList.map (·.2)).map a.eval)=parts.toList.map λp=>(p.1,a.eval p.2):=by
   have e1:List.range' 0 ((parts.toList.map (·.2)).map a.eval).length=parts.toList.map (·.1):=by
    rw[hidx,qll];simp[hlen]
   rw[e1,List.map_map,List.zip_map', ];rfl
  rw[hparts]at r1;have hrun:(Instr.buildSlice t len (parts.map λ(i,x)=>(i,a.eval x))).run P w= .ok (.slice (some ⟨w.heap.size,0,none⟩) len len) (w.alloc (.cells cells' el)):=by
   have hl:¬ (16777216 < len*n):=by omega
   have r1':Instr.fill (λi=>some (i*n,n)) ((Array.range (len*n)).map (zv.cells[· % zv.cells.size]!)) (parts.toList.map λp=>(p.1,a.eval p.2))=some cells':=r1;simp[Instr.buildSlice,run_underlying ht,aC hs,hl,hzv0,zeroValue,typeInfo,hi,hzv,r1',newRow]
  refine⟨.slice (some ⟨w.heap.size,0,none⟩) len len,_,w.alloc (.cells cells' el),by simp[execOp,ho,hrun],GrB.alloc _ _ _,λhst' m=>?_,hv⟩;have hnn:∀d∈ (parts.toList.map (·.2)).map (ev σ),d.kn=true/\d.cells.length=n:=hall;have hlen2:((parts.toList.map (·.2)).map (ev σ)).length=len:=by simp[hlen]
  have hcell:∀ (k:Nat) (c:D),(aR ((parts.toList.map (·.2)).map (ev σ)))[k]? =some c->∃y,cells'[k]? =some y/\y.oneCell'=true/\R tp (aI E.O tp H (w.alloc (.cells cells' el))) (w.alloc (.cells cells' el)) y c:=by
   intro k c hk;obtain⟨d,hd,hdc,hmod,he⟩:=ru hn (λd hd=>(hnn d hd).2) hk;rw[qjU]at hd;obtain⟨x,hx,rfl⟩:=ay hd;have hxm:x∈parts.toList.map (·.2):=qjD hx;have hRx:=m _ _ (hr x hxm);have hkx:=hnn (ev σ x) (qjN.2 ⟨x,hxm,rfl⟩);obtain⟨c1,c2⟩:=hRx.cells hkx.1;have hvx:((parts.toList.map (·.2)).map a.eval)[k/n]? =some (a.eval x):=by rw[qjU,hx];rfl
   have:=r4 (k/n) (k % n) _ hvx hmod;rw[qki,<-he]at this;have hlt:k % n < (a.eval x).cells.toList.length:=by rw[c1,hkx.2];exact hmod
   have hlt':k % n < (a.eval x).cells.size:=by simpa using hlt
   refine⟨(a.eval x).cells[k % n],by rw[this];simp[hlt'],?_⟩;exact c2 (k % n) _ c (by simp[hlt']) hdc
  have hgn:(w.alloc (.cells cells' el)).heap[w.heap.size]? =some (.cells cells' el (0,0)):=heap_alloc_new _ _
  suffices hsuf:R tp (aI E.O tp H (w.alloc (.cells cells' el))) (w.alloc (.cells cells' el)) (.slice (some ⟨w.heap.size,0,none⟩) ((parts.toList.map (·.2)).map (ev σ)).length ((parts.toList.map (·.2)).map (ev σ)).length) (.list n ((parts.toList.map (·.2)).map (ev σ))) by
   rw[hlen2]at hsuf;exact hsuf
  refine .list w.heap.size 0 _ n _ (λk=>cells'.getD k undef) (Nk hst) (qjL _) (by rw[hlen2];have:len<=len*n:=qlA _ hn;simp only[maxLen];omega) (λ_=>⟨_,_,hgn⟩) hnn (λk c hk=>?_) (λk c hk=>?_) (λk c hk=>?_)
  all_goals
   obtain⟨y,h1,h2,h3⟩:=hcell k c hk;have hgd:cells'.getD k undef=y:=by
    rw[qj1,h1];rfl
   try dsimp only
   rw[hgd]
  ·rw[qki,cell_of_row _ _ k cells' el (0,0) hgn];exact h1
  ·exact h2
  ·exact h3
 ·cases hps
end
def gA{l nv:List Value}{off:Nat}(h:off+nv.length<=l.length)(k:Nat):(l.take off++nv++l.drop (off+nv.length))[k]? =if off<=k/\k < off+nv.length then nv[k -off]? else l[k]?:=by
 have e1:(l.take off).length=off:=by simp;omega
 have e2:(l.take off++nv).length=off+nv.length:=by simp;omega
 by_cases h1:k < off
 ·rw[qkg,qjQ (by omega),qjS,if_pos h1,if_neg (by omega)]
 ·by_cases h2:k < off+nv.length
  ·rw[qkg,qjK (by omega),e1,qjQ (by omega),if_pos (by omega)]
  ·rw[qjK (by omega),qkb,e2,if_neg (by omega)];congr 1;omega
def mD{Q:Value->D->Prop}{xs:List Value}{ds new:List D}{nv:List Value}{off:Nat}(hl:xs.length=ds.length)(h:ba Q xs ds)(hn:nv.length=new.length)(hq:ba Q nv new)
 (hfit:off+new.length<=ds.length):ba Q (xs.take off++nv++xs.drop (off+nv.length)) (setAt ds off new):=by
 intro k y c hy hc;rw[zR hfit]at hc;rw[gA (by omega),hn]at hy;split at hc
 ·rename_i hk;rw[if_pos hk]at hy;exact hq _ y c hy hc
 ·rename_i hk;rw[if_neg hk]at hy;exact h k y c hy hc
def jC(w:World)(g:Nat)(cs:Array Value):GrB w (w.setRow g cs) (some g):=
 ⟨⟨rfl,rfl,rfl,by simp,λk _ hk=>setRow_other w g k cs (λe=>hk (by rw[e]))⟩,qjL _⟩
section
variable {P:Program}{o:Oper}{a:Act}{tp I:Nat->Prop}{w:World}{σ:Sg}{K:D->Prop}
theorem RM{n:Nat}(hn:0 < n){es:List D}(h:∀d∈es,d.cells.length=n){i off:Nat}{d e:D}{new:List D}(hi:es[i]? =some d)(he:e.cells=setAt d.cells off new)(hfit:off+new.length<=n):
 aR (es.set i e)=setAt (aR es) (i*n+off) new:=by
 have hil:i < es.length:=(qjA.1 hi).1;have hd:=h d (qjD hi);have hen:e.cells.length=n:=by rw[he,ji (by omega)];exact hd
 have h':∀x∈es.set i e,x.cells.length=n:=λx hx=>by
  rcases qkp hx with hx|rfl
  ·exact h x hx
  ·exact hen
 have hfl:=aF h;have hfl':=aF h';have hle:(i+1) *n<=es.length*n:=qj9 n hil;rw[qkj]at hle;apply qkQ;intro k;have hmod:k % n < n:=qk7 _ hn;have hk:k=k/n*n+k % n:=by rw[qk5];exact(qlb k n).symm
 have hfitF:i*n+off+new.length<=(aR es).length:=by omega
 rw[hk,eF h' hmod,List.getElem?_set,zR hfitF];generalize hq:k/n=q;generalize hr:k % n=r;rw[hr]at hmod;by_cases hqi:i=q
 ·subst hqi;simp only[if_true,hil,qjV,he];rw[zR (by omega),eF h hmod,hi];by_cases h2:off<=r/\r < off+new.length
  ·rw[if_pos h2,if_pos (by omega)];congr 1;omega
  ·rw[if_neg h2,if_neg (by omega)];rfl
 ·rw[if_neg hqi,eF h hmod];rcases Nat.lt_or_gt_of_ne hqi with hlt|hgt
  ·have:i*n+n<=q*n:=by rw[<-qkj];exact qj9 n hlt
   rw[if_neg (by omega)]
  ·have:q*n+n<=i*n:=by rw[<-qkj];exact qj9 n hgt
   rw[if_neg (by omega)]
def xS{t:TypeId}{sz:Nat}(hs:cj P t=some sz){v:Value}(hv:v.cells.size=sz){b off el:Nat}{cur:Array Value}(hg:w.heap[b]? =some (.cells cur el (0,0)))(hfit:off+sz<=cur.size)(h1:∀x∈v.cells.toList,x.oneCell'=true):
 (storeVar t ⟨b,off,none⟩ v).run P w= .ok () (w.setRow b (cur.toList.take off++v.cells.toList++cur.toList.drop (off+v.cells.toList.length)).toArray):=by
 have:=run_storeCells_at P b off el v.cells.toList 0 cur w hg (by simp;omega) h1;simp only[qkK]at this;simp[storeVar,aC hs,hv,this]
theorem KW(t tx ty e:TypeId)(i:TypeInfo)(z:Value)(ht:P.underlying t=some (.slice e))(hi:P.info? e=some i)(hz:i.zero=some z)(hzs:z.cells.size=i.size)
 (v:Value) (n:Nat) (xs:List Value) (hown:w.ownsRow 0 e i.size v n xs) (x:Value) (m:Nat) (news:List Value) (hs:Src P i.size tx x m news w)
 (h63:n+m<=140737488355328) (hbytes:(n+m) *i.bytes<=140737488355328):
 ∃v' w',(Builtin.append_ #[t,tx] ty #[v,x]).run P w= .ok v' w'/\w'.ownsRow 0 e i.size v' (n+m) (xs++news)/\GrB w w' v.ownBlock/\(∀b,v'.ownBlock=some b->w.heap.size<=b\/v.ownBlock=some b):=by
 have hl:=hs.newsLen;have hlen:(xs++news).length=(n+m) *i.size:=by rw[qj4,hown.1,hl,qkH]
 have hfresh:∀ (old:Nat),old < n+m->∀ (row:Option Nat),
  (w.drew.alloc (.cells ((xs++news).toArray++Builtin.zeroCells z.cells (grownCap w (n+m) old e - (n+m))) e)).ownsRow 0 e i.size
    (.slice (some ⟨w.heap.size,0,none⟩) (n+m) (grownCap w (n+m) old e)) (n+m) (xs++news)/\
  GrB w (w.drew.alloc (.cells ((xs++news).toArray++Builtin.zeroCells z.cells (grownCap w (n+m) old e - (n+m))) e)) row:=by
  intro old _ row;have hge:=grownCap_ge w (n+m) old e;have hcm:grownCap w (n+m) old e<=maxLen:=grownCap_le_maxLen w (n+m) old e (by simp only[maxLen];omega);refine⟨⟨hlen, .inr ⟨w.heap.size,_,_,rfl,qj5 _,heap_alloc_new w.drew _,hge,hcm,?_,?_⟩⟩,⟨⟨rfl,rfl,rfl,by simp,λk hk _=>qlB w.drew _ k hk⟩,qkS _⟩⟩
  ·simp only[qlR,qk4,size_zeroCells,hzs,hlen,<-qkH];congr 1;omega
  ·rw[qlK,<-hlen];exact qlp
 rcases hown.2 with⟨rfl,rfl⟩|⟨g,cap,cur,rfl,hbg,hg,hnc,hcm,hcs,htake⟩
 ·have hx:xs=[]:=qjP (by simpa using hown.1);subst hx;by_cases hm:m=0
  ·subst hm;have hn:news=[]:=qjP (by simpa using hl);subst hn;refine⟨.slice none 0 0,w,?_,by simpa using hown,dV _ _,λb hb=> .inr hb⟩;have hc:=hs.cells;rcases hs.kind with⟨e',hk⟩|hk <;> simp[Builtin.append_,run_underlying ht,run_underlying hk,sizeOf,typeInfo,hi,hs.len,hc]
  ·have hr:=run_append_grow_src (P:=P) w t tx ty e i z ht hi hz none 0 0 [] (by simpa using run_firstCells_none w.drew i.size 0 0 0) x m news hs (by omega) (by omega) (growslice_fits (by omega) (by simpa using hbytes));have hgr:=hfresh 0 (by omega) (Value.ownBlock (.slice none 0 0));simp only[qki,qky]at hgr hr ⊢;exact⟨_,_,hr,hgr.1,hgr.2,λb hb=> .inl (by simp[Value.ownBlock]at hb;omega)⟩
 ·by_cases hroom:n+m<=cap
  ·have hfit:n*i.size+news.length<=cur.size:=by rw[hl,hcs,<-qkH];exact qj9 _ hroom
   have hst:=run_storeCells_at P g (n*i.size) e news 0 cur w hg hfit hs.one;simp only[qkK]at hst;have hr:(Builtin.append_ #[t,tx] ty #[.slice (some ⟨g,0,none⟩) n cap,x]).run P w= .ok (.slice (some ⟨g,0,none⟩) (n+m) cap) (w.setRow g (cur.toList.take (n*i.size) ++news++cur.toList.drop (n*i.size+news.length)).toArray):=by
    rcases hs.kind with⟨e',hk⟩|hk <;> simp[Builtin.append_,run_underlying ht,run_underlying hk,sizeOf,typeInfo,hi,hs.len,hroom,hs.cells,Addr.add_lit,hst]
   refine⟨_,_,hr,⟨hlen, .inr ⟨g,cap,_,rfl,qj5 _,setRow_heap w g cur _ e _ hg,hroom,hcm,?_,?_⟩⟩,jC _ _ _,λb hb=> .inr hb⟩
   ·simp only[qk4,qj4,qj3,qkz,qjT];omega
   ·rw[htake,<-hlen];exact qlp
  ·have holds:∀j u,xs[j]? =some u->w.cell? ((⟨g,0,none⟩:Addr).add j)=some u:=hown.cells (g:=g) rfl;have hr:=run_append_grow_src (P:=P) w t tx ty e i z ht hi hz (some ⟨g,0,none⟩) n cap xs (run_firstCells_some w.drew i.size n ⟨g,0,none⟩ n cap xs hown.1 (by simpa using holds)) x m news hs (by omega) (by omega) (growslice_fits (by omega) hbytes);have hgr:=hfresh cap (by omega) (Value.ownBlock (.slice (some ⟨g,0,none⟩) n cap));exact⟨_,_,hr,hgr.1,hgr.2,λb hb=> .inl (by simp[Value.ownBlock]at hb;omega)⟩
end
end Go.Gv
