/- S4 -/
import Derived.Deep.AppendSrc
import Derived.Test.YtfpmgnnippjblaaGreatDoorGa02
set_option linter.all false
namespace Go.Gv
def nO(off:Nat):∀(l:List (Value×Nat)) (cells:Array Value),(l.foldl (λcs p=>cs.setIfInBounds (off+p.2) p.1) cells).size=cells.size
 | [],_=>rfl
 |p::l,cells=>by rw[qCj,nO off l];simp
def ve(off:Nat):∀(l:List Value) (s:Nat) (cells:Array Value) (k:Nat),off+s+l.length<=cells.size->
 ((l.zipIdx s).foldl (λcs p=>cs.setIfInBounds (off+p.2) p.1) cells)[k]? =if off+s<=k/\k<off+s+l.length then l[k - (off+s)]? else cells[k]?
 | [],s,cells,k,h=>by
   simp;omega
 | v::l,s,cells,k,h=>by
   simp only[qB2]at h;rw[List.zipIdx_cons,qCj,ve off l (s+1) _ k (by grind)];grind
def IP{place:Nat->Option (Nat×Nat)}{cells:Array Value}{i off sz:Nat}{v:Value}{rest:List (Nat×Value)}(hp:place i=some (off,sz))(c:v.cells.size=sz)(b:off+sz<=cells.size):
 Instr.fill place cells ((i,v)::rest)=Instr.fill place ((v.cells.toList.zipIdx 0).foldl (λcs p=>cs.setIfInBounds (off+p.2) p.1) cells) rest:=by
 simp only[Instr.fill,hp];rw[if_neg (by grind)];grind [Array.toList_zipIdx]
section
variable {P:Program}{o:Oper}{a:Act}{tp I:Nat->Prop}{w:World}{σ:Sg}{K:D->Prop}
def BW{Q:Value->D->Prop}{cells b:Array Value}{ds:List D}{new:List D}{nv:List Value}{off:Nat}(hl:cells.size=ds.length)(h:aN Q cells.toList ds)(hn:nv.length=new.length)(p:aN Q nv new)
 (l:off+new.length<=ds.length) (hc:∀k:Nat,b[k]? =if off<=k/\k<off+nv.length then nv[k -off]? else cells[k]?):aN Q b.toList (setAt ds off new):=by
 intro k y c d j;simp only[qBD]at d;rw[hc k]at d;simp only[Gv.setAt]at j;split at d;grind [aN]
 ·rename_i hk;refine h k y c (by grind) ?_;grind
def Ib{l new:List D}{off:Nat}(h:off+new.length<=l.length)(k:Nat):(setAt l off new)[k]? =if off<=k/\k<off+new.length then new[k -off]? else l[k]?:=by
 have b:(l.take off).length=off:=by grind
 have c:(l.take off++new).length=off+new.length:=by grind
 simp only[setAt];grind
theorem mW{ds new:List D}{off:Nat}(h:off+new.length<=ds.length):(setAt ds off new).length=ds.length:=by
 grind [setAt]
theorem Xd{fs:Array Field}{places:List (Nat×Nat)}(h:∀(i:Nat) (f:Field) (sz:Nat),fs[i]? =some f->cj P f.type=some sz->places[i]? =some (f.offset,sz))(N:Nat):
 ∀ (parts:List (Nat×Operand)) (s:List (Nat×Nat×Operand)),(∀p∈parts,R tp I w (a.eval p.2) (ev σ p.2))->
  parts.mapM (λp=>do
   let f <-fs[p.1]?
   let sz <-cj P f.type
   if f.offset+sz<=N then some (f.offset,sz,p.2)else none)=some s->
  ∀ (cs:Array Value) (ds:List D) (j:List D->Prop),cs.size=N->ds.length=N->aN (R tp I w) cs.toList ds->jz σ s ds j->
   ∃cs' b,Instr.fill (λi=>places[i]?) cs (parts.map λp=>(p.1,a.eval p.2))=some cs'/\cs'.size=N/\b.length=N/\aN (R tp I w) cs'.toList b/\j b
 | [],s,_,hm,cs,ds,j,h1,h2,h3,l=>by
   simp at hm;subst hm;exact⟨cs,ds,rfl,h1,h2,h3,l⟩
 | p::parts,s,y,hm,cs,ds,j,h1,h2,h3,l=>by
   rw[qBS]at hm;simp only[qBd,qBb,Option.pure_def]at hm;obtain⟨q,⟨f,E,sz,t,u⟩,rest,c,x⟩:=hm;split at u
   ·rename_i A;cases u;cases x;obtain⟨F,M,l⟩:=l;have J:=y p (by simp);obtain⟨c1,c2⟩:=J.cells F;have d:(a.eval p.2).cells.size=sz:=by grind
    have L:=IP (place:=λi=>places[i]?) (cells:=cs) (i:=p.1) (v:=a.eval p.2) (rest:=parts.map λp=>(p.1,a.eval p.2)) (h p.1 f sz E t) d (by omega);have hlen:(a.eval p.2).cells.toList.length=sz:=by omega
    have C:=ve f.offset (a.eval p.2).cells.toList 0 cs;have r:aN (R tp I w) (((a.eval p.2).cells.toList.zipIdx 0).foldl (λcs p=>cs.setIfInBounds (f.offset+p.2) p.1) cs).toList (setAt ds f.offset (ev σ p.2).cells):=
     BW (cells:=cs) (nv:=(a.eval p.2).cells.toList) (by omega) h3 (by omega) c2 (by omega) (λk=>by
      grind)
    obtain⟨cs',b,O,Q,S,U,W⟩:=Xd h N parts rest (λq u=>y q (by grind)) c _ _ j (by simp_all [nO]) (by grind [mW]) r l;grind
   grind
theorem QD(sz:Nat)(N:Nat):
 ∀ (parts:List (Nat×Operand)) (r:List (Nat×Nat×Operand)),(∀p∈parts,R tp I w (a.eval p.2) (ev σ p.2))->
  parts.mapM (λp=>if p.1*sz+sz<=N then some (p.1*sz,sz,p.2)else none)=some r->
  ∀ (cs:Array Value) (ds:List D) (h:List D->Prop),cs.size=N->ds.length=N->aN (R tp I w) cs.toList ds->jz σ r ds h->
   ∃cs' b,Instr.fill (λi=>some (i*sz,sz)) cs (parts.map λp=>(p.1,a.eval p.2))=some cs'/\cs'.size=N/\b.length=N/\aN (R tp I w) cs'.toList b/\h b
 | [],r,_,hm,cs,ds,h,h1,h2,h3,j=>by
   simp at hm;subst hm;exact⟨cs,ds,rfl,h1,h2,h3,j⟩
 | p::parts,r,u,hm,cs,ds,h,h1,h2,h3,j=>by
   rw[qBS]at hm;simp only[qBd,qBb,Option.pure_def]at hm;obtain⟨q,s,rest,c,t⟩:=hm;split at s
   ·rename_i x;cases s;cases t;obtain⟨A,F,j⟩:=j;have C:=u p (by simp);obtain⟨c1,c2⟩:=C.cells A;have d:(a.eval p.2).cells.size=sz:=by grind
    have E:=IP (place:=λi=>some (i*sz,sz)) (cells:=cs) (i:=p.1) (v:=a.eval p.2) (rest:=parts.map λp=>(p.1,a.eval p.2)) rfl d (by omega);have hlen:(a.eval p.2).cells.toList.length=sz:=by omega
    have y:=ve (p.1*sz) (a.eval p.2).cells.toList 0 cs;have l:aN (R tp I w) (((a.eval p.2).cells.toList.zipIdx 0).foldl (λcs q=>cs.setIfInBounds ((p.1*sz) +q.2) q.1) cs).toList (setAt ds (p.1*sz) (ev σ p.2).cells):=
     BW (cells:=cs) (nv:=(a.eval p.2).cells.toList) (by omega) h3 (by omega) c2 (by omega) (λk=>by
      grind)
    obtain⟨cs',b,J,L,M,O,Q⟩:=QD sz N parts rest (λq s=>u q (by grind)) c _ _ h (by simp_all [nO]) (by grind [mW]) l j;grind
   grind
theorem kC{z:List Value}(h:z.all (λx=>match x with| .string s=>decide (s.size<=1000000)| .bool _| .int _ _| .pointer _| .slice _ _ _| .nilFunc| .map _=>true|_=>false)=true)(h1:z.all (·.oneCell')=true):aN (R tp I w) z (z.map qd):=by
 intro k y c b hc;rw[qBw,b]at hc;cases hc;have hm:=qBf b;refine⟨qBi.1 h1 y hm,qlR y (λs hs=>?_)⟩;have:=qBi.1 h y hm;subst hs;have:s.size<=1000000:=by grind
 grind [maxLen]
def dU{t:TypeId}{z:List Value}(h:cg P t=some z):∃i b,P.info? t=some i/\i.zero=some b/\b.cells.toList=z/\i.size=z.length/\z.all (·.oneCell')=true/\
 z.all (λx=>match x with| .string s=>decide (s.size<=1000000)| .bool _| .int _ _| .pointer _| .slice _ _ _| .nilFunc| .map _=>true|_=>false)=true:=by
 unfold cg at h;simp only[qBd,qBb]at h;grind
theorem ZK{t:TypeId}{parts:Array (Nat×Operand)}{fs:Array Field}{z:List Value}{s:List (Nat×Nat×Operand)}(ho:o.op= .build t parts)(hz:cg P t=some z)(ht:P.underlying t=some (.struct fs))
 (u:parts.toList.mapM (λp=>do
   let f <-fs[p.1]?
   let sz <-cj P f.type
   if f.offset+sz<=z.length then some (f.offset,sz,p.2)else none)=some s)
 (d:fs.toList.all (λf=>(cj P f.type).isSome)=true) (J:∀p∈parts.toList,R tp I w (a.eval p.2) (ev σ p.2)) {H:ab} (A:aj (.build z s) σ H K):Good P o a tp I w K:=by
 simp only[aj]at A;obtain⟨i,L,hi,M,N,O,Q,S⟩:=dU hz;have places:∀(l:List Field),l.all (λf=>(cj P f.type).isSome)=true->∃pl,l.mapM (λf=>(P.info? f.type).map λi=>(f.offset,i.size))=some pl/\∀(i:Nat) (f:Field) (sz:Nat),l[i]? =some f->cj P f.type=some sz->pl[i]? =some (f.offset,sz):=by
  intro l
  induction l with
  |nil=>simp
  | cons f l U=>
    intro h;simp only[qCJ,qBh]at h;obtain⟨pl,e1,e2⟩:=U h.2;obtain⟨sz,hs⟩:=qBW.1 h.1;have q:=hs;unfold cj at q;obtain⟨ii,W,C⟩:=aO q;refine⟨(f.offset,sz)::pl,by grind,λj g sg hj hg=>?_⟩;grind
 obtain⟨pl,E,r⟩:=places fs.toList d;obtain⟨cs',b,r1,r2,r3,F,Y⟩:=Xd (P:=P) (fs:=fs) (places:=pl) (λi f sz h1 h2=>r i f sz (by grind) h2) z.length parts.toList s J u L.cells (z.map qd) _ (by grind) (by simp) (by grind [aN,cg,kC]) A;have hb:P.built t (parts.map λ(i,x)=>(i,a.eval x)).toList=some cs':=by
  simp_all [Program.built]
 refine⟨.agg cs', .agg b,by simp_all [execOp,run_build],?_,Y⟩;have:=R.agg (tp:=tp) (I:=I) (w:=w) cs'.toList b (by grind) (λx Z=>?_) (λk x c h1 h2=>(F k x c h1 h2).2);omega
 ·obtain⟨k,hk⟩:=qBA.1 Z;have y:k<b.length:=by
   grind
  exact(F k x _ hk (qBe y)).1
def GoodN(P:Program)(o:Oper)(a:Act)(E:zW)(tp:Nat->Prop)(H:ab)(w:World)(K:D->Prop):Prop:=
 ∃x d w',(execOp a.eval o).run P w= .ok (.value x) w'/\GrB w w' none/\(StW E tp H w'->(∀y e,R tp (aW E.O tp H w) w y e->R tp (aW E.O tp H w') w' y e)->R tp (aW E.O tp H w') w' x d)/\K d
theorem WX{t el:TypeId}{parts:Array (Nat×Operand)}{len sz:Nat}{z:List Value}{h:List (Nat×Nat×Operand)}(ho:o.op= .build t parts)(hz:cg P t=some z)(Q:P.underlying t=some (.array len el))(hs:cj P el=some sz)
 (j:parts.toList.mapM (λp=>if p.1*sz+sz<=z.length then some (p.1*sz,sz,p.2)else none)=some h)
 (u:∀p∈parts.toList,R tp I w (a.eval p.2) (ev σ p.2)) {H:ab} (r:aj (.build z h) σ H K):Good P o a tp I w K:=by
 simp only[aj]at r;obtain⟨i,y,hi,A,C,E,F,J⟩:=dU hz;have d:=hs;unfold cj at d;obtain⟨L,M,l⟩:=aO d;subst l;obtain⟨cs',b,S,U,W,s,N⟩:=QD L.size z.length parts.toList h u j y.cells (z.map qd) _ (by grind) (by simp) (by grind [aN,cg,kC]) r;have hb:P.built t (parts.map λ(i,x)=>(i,a.eval x)).toList=some cs':=by
  simp_all [Program.built]
 refine⟨.agg cs', .agg b,by simp_all [execOp,run_build],?_,N⟩;have:=R.agg (tp:=tp) (I:=I) (w:=w) cs'.toList b (by grind) (λx O=>?_) (λk x c h1 h2=>(s k x c h1 h2).2);omega
 ·obtain⟨k,hk⟩:=qBA.1 O;have q:k<b.length:=by
   grind
  exact(s k x _ hk (qBe q)).1
def Good.toN{E:zW}{H:ab}(h:Good P o a tp (aW E.O tp H w) w K):GoodN P o a E tp H w K:=by
 grind [GoodN,Good,fL]
def qbs{E:zW}{H:ab}{ob:Obj}(b:StW E tp H w):aW E.O tp H (w.alloc ob) w.heap.size:=by
 have c:E.w0.heap.size<=w.heap.size:=b.step.size;refine⟨by simp,λh=>by have:=b.hO _ h;omega,λh=>by grind [StW],λ⟨i,r,h1,h2⟩=>by have:=(b.sat.ok i r h1).lt h2;omega⟩
def qdv{el:TypeId}{x:Operand}{E:zW}{H:ab}(c:StW E tp H w)(ho:o.op= .box el x)(j:R tp (aW E.O tp H w) w (a.eval x) (ev σ x))(b:aj (.box el true x) σ H K):GoodN P o a E tp H w K:=by
 simp only[aj]at b;obtain⟨hk,b⟩:=b;refine⟨.pointer (some ⟨w.heap.size,0,none⟩),_,w.alloc (.cells (a.eval x).cells el),by simp[execOp,ho,Instr.box,newVar,newRow],GrB.alloc _ _ _,λd m=>?_,b⟩;obtain⟨c1,c2⟩:=(m _ _ j).cells hk;have h:(w.alloc (.cells (a.eval x).cells el)).heap[w.heap.size]? =some (.cells (a.eval x).cells el (0,0)):=heap_alloc_new _ _;obtain⟨f,k,l,p⟩:=xL h (by omega) c2;have:=R.cptr (tp:=tp) w.heap.size 0 (ev σ x).cells 0 f (qbs c) (λ_=>⟨_,_,h⟩) k l p;omega
theorem Nl{n:Nat} :∀(vs:List Value) (s:Nat) (cells:Array Value),(∀v∈vs,v.cells.size=n)->(s+vs.length) *n<=cells.size->
 ∃b,Instr.fill (λi=>some (i*n,n)) cells ((List.range' s vs.length).zip vs)=some b/\b.size=cells.size/\(∀k,k<s*n->b[k]? =cells[k]?)/\
  ∀i j v,vs[i]? =some v->j<n->b[(s+i) *n+j]? =v.cells[j]?
 | [],s,cells,_,_=>⟨cells,rfl,rfl,λ_ _=>rfl,λi j v h=>by grind⟩
 | v::vs,s,cells,hn,d=>by
   have q:=hn v (by simp);simp only[qB2]at d;have c:s*n+n<=cells.size:=by
    grind
   have r:=IP (place:=λi=>some (i*n,n)) (cells:=cells) (i:=s) (v:=v) (rest:=(List.range' (s+1) vs.length).zip vs) rfl q c;have l:=ve (s*n) v.cells.toList 0 cells;obtain⟨c',y,t,A,C⟩:=Nl vs (s+1) ((v.cells.toList.zipIdx 0).foldl (λcs p=>cs.setIfInBounds (s*n+p.2) p.1) cells) (λu x=>hn u (by grind)) (by
    rw[nO];grind)
   refine⟨c',?_,by rw[t,nO],λk hk=>?_,λi j u x E=>?_⟩;grind [List.range'_succ,List.zip_cons_cons];grind
   ·cases i<;>grind
def yv{n:Nat} :∀{l:List D},jr n l->∀d∈l,d.kn=true/\d.cells.length=n
 | [],_,d,hd=>by grind
 | e::l,h,d,hd=>by
   rcases qBt.1 hd with rfl|hd;grind [jr]
   ·exact yv h.2.2 d hd
def yJ{n:Nat}(hn:0<n){es:List D}(h:∀d∈es,d.cells.length=n){k:Nat}{c:D}(hk:(bk es)[k]? =some c):∃d,es[k/n]? =some d/\d.cells[k % n]? =some c/\k % n<n/\k=k/n*n+k % n:=by
 have b:k % n<n:=qCw _ hn;have he:k=k/n*n+k % n:=by grind [Nat.div_add_mod]
 rw[he,gG h b]at hk;grind
theorem WY{t el:TypeId}{n len:Nat}{parts:Array (Nat×Operand)}{W:List Operand}{E:zW}{H:ab}{z0:List Value}(Y:StW E tp H w)(ho:o.op= .buildSlice t len parts)(ht:P.underlying t=some (.slice el))(hs:cj P el=some n)
 (hz:cg P el=some z0) (u:wF parts len=some W) (hlim:len*n<=2^24) (hn:0<n) (Z:len≠0) (hr:∀x∈W,R tp (aW E.O tp H w) w (a.eval x) (ev σ x)) (Q:aj (.bslice el n W) σ H K):GoodN P o a E tp H w K:=by
 simp only[aj]at Q;obtain⟨hpv,Q⟩:=Q;unfold wF at u;split at u
 ·rename_i C;cases u;have hlen:parts.toList.length=len:=by
   have:=congrArg List.length C;grind
  obtain⟨i,S,hi,hzv,hzc,hsz,hz1,hz2⟩:=dU hz;have l:=yv hpv;have hvs:∀v∈ (parts.toList.map (·.2)).map a.eval,v.cells.size=n:=by
   intro v hv';obtain⟨x,F,rfl⟩:=qBr.1 hv';have h1:=l (ev σ x) (qBr.2 ⟨x,F,rfl⟩);have:=((hr x F).cells h1.1).1;grind
  have hz0:z0.length=n:=by
   grind [StW,cg,cj]
  have J:¬(len*n=0):=by
   grind [StW,cj,cg,Nat.mul_eq_zero]
  obtain⟨b,r1,r2,r3,r4⟩:=Nl (n:=n) ((parts.toList.map (·.2)).map a.eval) 0 ((Array.range (len*n)).map (S.cells[· % S.cells.size]!)) hvs (by grind);have j:(List.range' 0 ((parts.toList.map (·.2)).map a.eval).length).zip ((parts.toList.map (·.2)).map a.eval)=parts.toList.map λp=>(p.1,a.eval p.2):=by
   have e1:List.range' 0 ((parts.toList.map (·.2)).map a.eval).length=parts.toList.map (·.1):=by
    grind [StW,cj,cg,List.range_eq_range']
   grind
  rw[j]at r1;have L:(Instr.buildSlice t len (parts.map λ(i,x)=>(i,a.eval x))).run P w= .ok (.slice (some ⟨w.heap.size,0,none⟩) len len) (w.alloc (.cells b el)):=by
   have hl:¬(16777216<len*n):=by omega
   have r1':Instr.fill (λi=>some (i*n,n)) ((Array.range (len*n)).map (S.cells[· % S.cells.size]!)) (parts.toList.map λp=>(p.1,a.eval p.2))=some b:=r1;simp[Instr.buildSlice,run_underlying ht,aQ hs,hl,J,zeroValue,typeInfo,hi,hzv,r1',newRow]
  refine⟨.slice (some ⟨w.heap.size,0,none⟩) len len,_,w.alloc (.cells b el),by simp[execOp,ho,L],GrB.alloc _ _ _,λhst' m=>?_,Q⟩;have A:∀d∈ (parts.toList.map (·.2)).map (ev σ),d.kn=true/\d.cells.length=n:=l;have h:((parts.toList.map (·.2)).map (ev σ)).length=len:=by simp[hlen]
  have hcell:∀(k:Nat) (c:D),(bk ((parts.toList.map (·.2)).map (ev σ)))[k]? =some c->∃y,b[k]? =some y/\y.oneCell'=true/\R tp (aW E.O tp H (w.alloc (.cells b el))) (w.alloc (.cells b el)) y c:=by
   intro k c hk;obtain⟨d,U,hdc,q,he⟩:=yJ hn (λd U=>(A d U).2) hk;rw[qBw]at U;obtain⟨x,F,rfl⟩:=aO U;have M:x∈parts.toList.map (·.2):=qBf F;have hRx:=m _ _ (hr x M);have N:=A (ev σ x) (qBr.2 ⟨x,M,rfl⟩);obtain⟨c1,c2⟩:=hRx.cells N.1;have hvx:((parts.toList.map (·.2)).map a.eval)[k/n]? =some (a.eval x):=by rw[qBw,F];rfl
   have:=r4 (k/n) (k % n) _ hvx q;rw[qBV,<-he]at this;have hlt:k % n<(a.eval x).cells.toList.length:=by rw[c1,N.2];exact q
   have r:k % n<(a.eval x).cells.size:=by simpa using hlt
   refine⟨(a.eval x).cells[k % n],by rw[this];simp[r],?_⟩;exact c2 (k % n) _ c (by simp[r]) hdc
  have hgn:(w.alloc (.cells b el)).heap[w.heap.size]? =some (.cells b el (0,0)):=heap_alloc_new _ _
  suffices s:R tp (aW E.O tp H (w.alloc (.cells b el))) (w.alloc (.cells b el)) (.slice (some ⟨w.heap.size,0,none⟩) ((parts.toList.map (·.2)).map (ev σ)).length ((parts.toList.map (·.2)).map (ev σ)).length) (.list n ((parts.toList.map (·.2)).map (ev σ)))by
   rw[h]at s;exact s
  refine .list w.heap.size 0 _ n _ (λk=>b.getD k undef) (qbs Y) (qBj _) (by rw[h];have:len<=len*n:=qCU _ hn;simp only[maxLen];omega) (λ_=>⟨_,_,hgn⟩) A (λk c hk=>?_) (λk c hk=>?_) (λk c hk=>?_)
  all_goals
   obtain⟨y,h1,h2,h3⟩:=hcell k c hk;have hgd:b.getD k undef=y:=by
    rw[qBR,h1];rfl
   try dsimp only
   rw[hgd]
  simp_all;omega;omega
 grind
end
def jO{l nv:List Value}{off:Nat}(h:off+nv.length<=l.length)(k:Nat):(l.take off++nv++l.drop (off+nv.length))[k]? =if off<=k/\k<off+nv.length then nv[k -off]? else l[k]?:=by
 have b:(l.take off).length=off:=by grind
 grind
def sF{Q:Value->D->Prop}{xs:List Value}{ds new:List D}{nv:List Value}{off:Nat}(hl:xs.length=ds.length)(h:aN Q xs ds)(hn:nv.length=new.length)(j:aN Q nv new)
 (b:off+new.length<=ds.length):aN Q (xs.take off++nv++xs.drop (off+nv.length)) (setAt ds off new):=by
 intro k y c d hc;rw[Ib b]at hc;rw[jO (by omega),hn]at d;split at hc
 ·rename_i hk;rw[if_pos hk]at d;grind [aN]
 ·rename_i hk;rw[if_neg hk]at d;grind [aN]
def nN(w:World)(g:Nat)(cs:Array Value):GrB w (w.setRow g cs) (some g):=
 ⟨⟨rfl,rfl,rfl,by simp,λk _ hk=>setRow_other w g k cs (λe=>hk (by rw[e]))⟩,qBj _⟩
section
variable {P:Program}{o:Oper}{a:Act}{tp I:Nat->Prop}{w:World}{σ:Sg}{K:D->Prop}
theorem qgK{n:Nat}(hn:0<n){es:List D}(h:∀d∈es,d.cells.length=n){i off:Nat}{d e:D}{new:List D}(hi:es[i]? =some d)(he:e.cells=setAt d.cells off new)(t:off+new.length<=n):
 bk (es.set i e)=setAt (bk es) (i*n+off) new:=by
 have l:i<es.length:=(qBc.1 hi).1;have F:=h d (qBf hi);have A:e.cells.length=n:=by grind [mW]
 have u:∀x∈es.set i e,x.cells.length=n:=λx J=>by
  grind
 have C:=aR h;have y:=aR u;have p:(i+1) *n<=es.length*n:=qBH n l;rw[qCm]at p;apply qBX;intro k;have b:k % n<n:=qCw _ hn;have hk:k=k/n*n+k % n:=by grind [Nat.div_add_mod]
 have c:i*n+off+new.length<=(bk es).length:=by omega
 rw[hk,gG u b,List.getElem?_set,Ib c];generalize L:k/n=q;generalize E:k % n=r;rw[E]at b;by_cases j:i=q
 ·subst j;simp only[if_true,l,qBz,he];rw[Ib (by omega),gG h b,hi];grind
 ·rw[if_neg j,gG h b];rcases Nat.lt_or_gt_of_ne j with s|hgt
  ·have:i*n+n<=q*n:=by rw[<-qCm];exact qBH n s
   grind
  ·have:q*n+n<=i*n:=by rw[<-qCm];exact qBH n hgt
   grind
def FI{t:TypeId}{sz:Nat}(hs:cj P t=some sz){v:Value}(h:v.cells.size=sz){b off el:Nat}{cur:Array Value}(d:w.heap[b]? =some (.cells cur el (0,0)))(c:off+sz<=cur.size)(h1:∀x∈v.cells.toList,x.oneCell'=true):
 (storeVar t ⟨b,off,none⟩ v).run P w= .ok () (w.setRow b (cur.toList.take off++v.cells.toList++cur.toList.drop (off+v.cells.toList.length)).toArray):=by
 have:=run_storeCells_at P b off el v.cells.toList 0 cur w d (by grind) h1;simp_all [storeVar,aQ]
theorem Ye(t A ty e:TypeId)(i:TypeInfo)(z:Value)(F:P.underlying t=some (.slice e))(hi:P.info? e=some i)(hz:i.zero=some z)(J:z.cells.size=i.size)
 (v:Value) (n:Nat) (xs:List Value) (c:w.ownsRow 0 e i.size v n xs) (x:Value) (m:Nat) (news:List Value) (hs:Src P i.size A x m news w)
 (O:n+m<=140737488355328) (l:(n+m) *i.bytes<=140737488355328):
 ∃v' w',(Builtin.append_ #[t,A] ty #[v,x]).run P w= .ok v' w'/\w'.ownsRow 0 e i.size v' (n+m) (xs++news)/\GrB w w' v.ownBlock/\(∀b,v'.ownBlock=some b->w.heap.size<=b\/v.ownBlock=some b):=by
 have hl:=hs.newsLen;have hlen:(xs++news).length=(n+m) *i.size:=by rw[qBJ,c.1,hl,qCA]
 have p:∀(d:Nat),d<n+m->∀(row:Option Nat),
  (w.drew.alloc (.cells ((xs++news).toArray++Builtin.zeroCells z.cells (grownCap w (n+m) d e - (n+m))) e)).ownsRow 0 e i.size
    (.slice (some ⟨w.heap.size,0,none⟩) (n+m) (grownCap w (n+m) d e)) (n+m) (xs++news)/\
  GrB w (w.drew.alloc (.cells ((xs++news).toArray++Builtin.zeroCells z.cells (grownCap w (n+m) d e - (n+m))) e)) row:=by
  intro d _ row;have L:=grownCap_ge w (n+m) d e;have r:grownCap w (n+m) d e<=maxLen:=grownCap_le_maxLen w (n+m) d e (by grind [maxLen]);refine⟨⟨hlen, .inr ⟨w.heap.size,_,_,rfl,qBB _,heap_alloc_new w.drew _,L,r,?_,?_⟩⟩,⟨⟨rfl,rfl,rfl,by simp,λk hk _=>qDd w.drew _ k hk⟩,qCt _⟩⟩
  ·simp only[qDo,qCr,size_zeroCells,J,hlen,<-qCA];grind
  grind
 rcases c.2 with⟨rfl,rfl⟩|⟨g,cap,cur,rfl,Q,N,S,r,M,s⟩
 ·have U:xs=[]:=qBs (by grind);subst U;by_cases hm:m=0
  ·subst hm;have hn:news=[]:=qBs (by simpa using hl);subst hn;refine⟨.slice none 0 0,w,?_,by simpa using c,fL _ _,λb hb=> .inr hb⟩;have hc:=hs.cells;rcases hs.kind with⟨W,hk⟩|hk<;>simp[Builtin.append_,run_underlying F,run_underlying hk,sizeOf,typeInfo,hi,hs.len,hc]
  ·have y:=run_append_grow_src (P:=P) w t A ty e i z F hi hz none 0 0 [] (by simpa using run_firstCells_none w.drew i.size 0 0 0) x m news hs (by omega) (by omega) (growslice_fits (by omega) (by simpa using l));have q:=p 0 (by omega) (Value.ownBlock (.slice none 0 0));simp only[qBV,qCa]at q y ⊢;exact⟨_,_,y,q.1,q.2,λb hb=> .inl (by simp[Value.ownBlock]at hb;omega)⟩
 ·by_cases h:n+m<=cap
  ·have C:n*i.size+news.length<=cur.size:=by rw[hl,M,<-qCA];exact qBH _ h
   have E:=run_storeCells_at P g (n*i.size) e news 0 cur w N C hs.one;simp only[qCC]at E;have y:(Builtin.append_ #[t,A] ty #[.slice (some ⟨g,0,none⟩) n cap,x]).run P w= .ok (.slice (some ⟨g,0,none⟩) (n+m) cap) (w.setRow g (cur.toList.take (n*i.size) ++news++cur.toList.drop (n*i.size+news.length)).toArray):=by
    rcases hs.kind with⟨W,hk⟩|hk<;>simp[Builtin.append_,run_underlying F,run_underlying hk,sizeOf,typeInfo,hi,hs.len,h,hs.cells,Addr.add_lit,E]
   refine⟨_,_,y,⟨hlen, .inr ⟨g,cap,_,rfl,qBB _,setRow_heap w g cur _ e _ N,h,r,?_,?_⟩⟩,nN _ _ _,λb hb=> .inr hb⟩
   ·simp only[qCr,qBJ,qBC,qCc,qB5];omega
   ·rw[s,<-hlen];exact List.take_left
  ·have holds:∀j u,xs[j]? =some u->w.cell? ((⟨g,0,none⟩:Addr).add j)=some u:=c.cells (g:=g) rfl;have y:=run_append_grow_src (P:=P) w t A ty e i z F hi hz (some ⟨g,0,none⟩) n cap xs (run_firstCells_some w.drew i.size n ⟨g,0,none⟩ n cap xs c.1 (by simpa using holds)) x m news hs (by omega) (by omega) (growslice_fits (by omega) l);have q:=p cap (by omega) (Value.ownBlock (.slice (some ⟨g,0,none⟩) n cap));exact⟨_,_,y,q.1,q.2,λb hb=> .inl (by simp[Value.ownBlock]at hb;omega)⟩
end
end Go.Gv
