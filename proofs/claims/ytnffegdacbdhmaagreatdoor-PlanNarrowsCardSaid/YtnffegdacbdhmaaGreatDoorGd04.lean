/- S5 -/
import Derived.Deep.AppendSrc
import Derived.Test.YtnffegdacbdhmaaGreatDoorGd03
set_option linter.all false
namespace Go.Gv
def kS{l nv:List Value}{off:Nat}(h:off+nv.length<=l.length)(k:Nat):(l.take off++nv++l.drop (off+nv.length))[k]? =if off<=k/\k<off+nv.length then nv[k -off]? else l[k]?:=by
 have e1:(l.take off).length=off:=by simp;omega
 have e2:(l.take off++nv).length=off+nv.length:=by simp;omega
 by_cases h1:k<off
 ·rw[qAH,qAe (by omega),qAf,if_pos h1,if_neg (by omega)]
 ·by_cases h2:k<off+nv.length
  ·rw[qAH,qz9 (by omega),e1,qAe (by omega),if_pos (by omega)]
  ·rw[qz9 (by omega),qAF,e2,if_neg (by omega)];congr 1;omega
def tb{Q:Value->D->Prop}{xs:List Value}{ds new:List D}{nv:List Value}{off:Nat}(hl:xs.length=ds.length)(h:bN Q xs ds)(hn:nv.length=new.length)(hq:bN Q nv new)
 (hfit:off+new.length<=ds.length):bN Q (xs.take off++nv++xs.drop (off+nv.length)) (setAt ds off new):=by
 intro k y c hy hc;rw[HR hfit]at hc;rw[kS (by omega),hn]at hy;split at hc
 ·rename_i hk;rw[if_pos hk]at hy;exact hq _ y c hy hc
 ·rename_i hk;rw[if_neg hk]at hy;exact h k y c hy hc
def oU(w:World)(g:Nat)(cs:Array Value):GrB w (w.setRow g cs) (some g):=
 ⟨⟨rfl,rfl,rfl,by simp,λk _ hk=>setRow_other w g k cs (λe=>hk (by rw[e]))⟩,qz2 _⟩
section
variable {P:Program}{o:Oper}{a:Act}{tp I:Nat->Prop}{w:World}{σ:Sg}{K:D->Prop}
theorem qgh{n:Nat}(hn:0<n){es:List D}(h:∀d∈es,d.cells.length=n){i off:Nat}{d e:D}{new:List D}(hi:es[i]? =some d)(he:e.cells=setAt d.cells off new)(hfit:off+new.length<=n):
 be (es.set i e)=setAt (be es) (i*n+off) new:=by
 have hil:i<es.length:=(qzV.1 hi).1;have hd:=h d (qzY hi);have hen:e.cells.length=n:=by rw[he,nS (by omega)];exact hd
 have h':∀x∈es.set i e,x.cells.length=n:=λx hx=>by
  rcases qA0 hx with hx|rfl
  ·exact h x hx
  ·exact hen
 have hfl:=aY h;have hfl':=aY h';have hle:(i+1) *n<=es.length*n:=qAy n hil;rw[qAI]at hle;apply qAO;intro k;have hmod:k % n<n:=qBG _ hn;have hk:k=k/n*n+k % n:=by rw[qBo];exact(qBH k n).symm
 have hfitF:i*n+off+new.length<=(be es).length:=by omega
 rw[hk,hU h' hmod,List.getElem?_set,HR hfitF];generalize hq:k/n=q;generalize hr:k % n=r;rw[hr]at hmod;by_cases hqi:i=q
 ·subst hqi;simp only[if_true,hil,qAh,he];rw[HR (by omega),hU h hmod,hi];by_cases h2:off<=r/\r<off+new.length
  ·rw[if_pos h2,if_pos (by omega)];congr 1;omega
  ·rw[if_neg h2,if_neg (by omega)];rfl
 ·rw[if_neg hqi,hU h hmod];rcases Nat.lt_or_gt_of_ne hqi with hlt|hgt
  ·have:i*n+n<=q*n:=by rw[<-qAI];exact qAy n hlt
   rw[if_neg (by omega)]
  ·have:q*n+n<=i*n:=by rw[<-qAI];exact qAy n hgt
   rw[if_neg (by omega)]
def FJ{t:TypeId}{sz:Nat}(hs:dn P t=some sz){v:Value}(hv:v.cells.size=sz){b off el:Nat}{cur:Array Value}(hg:w.heap[b]? =some (.cells cur el (0,0)))(hfit:off+sz<=cur.size)(h1:∀x∈v.cells.toList,x.oneCell'=true):
 (storeVar t ⟨b,off,none⟩ v).run P w= .ok () (w.setRow b (cur.toList.take off++v.cells.toList++cur.toList.drop (off+v.cells.toList.length)).toArray):=by
 have:=run_storeCells_at P b off el v.cells.toList 0 cur w hg (by simp;omega) h1;simp only[qA5]at this;simp[storeVar,aW hs,hv,this]
theorem Xr(t tx ty e:TypeId)(i:TypeInfo)(z:Value)(ht:P.underlying t=some (.slice e))(hi:P.info? e=some i)(hz:i.zero=some z)(hzs:z.cells.size=i.size)
 (v:Value) (n:Nat) (xs:List Value) (hown:w.ownsRow 0 e i.size v n xs) (x:Value) (m:Nat) (news:List Value) (hs:Src P i.size tx x m news w)
 (h63:n+m<=140737488355328) (hbytes:(n+m) *i.bytes<=140737488355328):
 ∃v' w',(Builtin.append_ #[t,tx] ty #[v,x]).run P w= .ok v' w'/\w'.ownsRow 0 e i.size v' (n+m) (xs++news)/\GrB w w' v.ownBlock/\(∀b,v'.ownBlock=some b->w.heap.size<=b\/v.ownBlock=some b):=by
 have hl:=hs.newsLen;have hlen:(xs++news).length=(n+m) *i.size:=by rw[qAm,hown.1,hl,qBk]
 have hfresh:∀(old:Nat),old<n+m->∀(row:Option Nat),
  (w.drew.alloc (.cells ((xs++news).toArray++Builtin.zeroCells z.cells (grownCap w (n+m) old e - (n+m))) e)).ownsRow 0 e i.size
    (.slice (some ⟨w.heap.size,0,none⟩) (n+m) (grownCap w (n+m) old e)) (n+m) (xs++news)/\
  GrB w (w.drew.alloc (.cells ((xs++news).toArray++Builtin.zeroCells z.cells (grownCap w (n+m) old e - (n+m))) e)) row:=by
  intro old _ row;have hge:=grownCap_ge w (n+m) old e;have hcm:grownCap w (n+m) old e<=maxLen:=grownCap_le_maxLen w (n+m) old e (by simp only[maxLen];omega);refine⟨⟨hlen, .inr ⟨w.heap.size,_,_,rfl,qAr _,heap_alloc_new w.drew _,hge,hcm,?_,?_⟩⟩,⟨⟨rfl,rfl,rfl,by simp,λk hk _=>qCf w.drew _ k hk⟩,qBe _⟩⟩
  ·simp only[qCu,qBv,size_zeroCells,hzs,hlen,<-qBk];congr 1;omega
  ·rw[qCm,<-hlen];exact qB5
 rcases hown.2 with⟨rfl,rfl⟩|⟨g,cap,cur,rfl,hbg,hg,hnc,hcm,hcs,htake⟩
 ·have hx:xs=[]:=qAd (by simpa using hown.1);subst hx;by_cases hm:m=0
  ·subst hm;have hn:news=[]:=qAd (by simpa using hl);subst hn;refine⟨.slice none 0 0,w,?_,by simpa using hown,ga _ _,λb hb=> .inr hb⟩;have hc:=hs.cells;rcases hs.kind with⟨e',hk⟩|hk<;>simp[Builtin.append_,run_underlying ht,run_underlying hk,sizeOf,typeInfo,hi,hs.len,hc]
  ·have hr:=run_append_grow_src (P:=P) w t tx ty e i z ht hi hz none 0 0 [] (by simpa using run_firstCells_none w.drew i.size 0 0 0) x m news hs (by omega) (by omega) (growslice_fits (by omega) (by simpa using hbytes));have hgr:=hfresh 0 (by omega) (Value.ownBlock (.slice none 0 0));simp only[qAG,qAZ]at hgr hr ⊢;exact⟨_,_,hr,hgr.1,hgr.2,λb hb=> .inl (by simp[Value.ownBlock]at hb;omega)⟩
 ·by_cases hroom:n+m<=cap
  ·have hfit:n*i.size+news.length<=cur.size:=by rw[hl,hcs,<-qBk];exact qAy _ hroom
   have hst:=run_storeCells_at P g (n*i.size) e news 0 cur w hg hfit hs.one;simp only[qA5]at hst;have hr:(Builtin.append_ #[t,tx] ty #[.slice (some ⟨g,0,none⟩) n cap,x]).run P w= .ok (.slice (some ⟨g,0,none⟩) (n+m) cap) (w.setRow g (cur.toList.take (n*i.size) ++news++cur.toList.drop (n*i.size+news.length)).toArray):=by
    rcases hs.kind with⟨e',hk⟩|hk<;>simp[Builtin.append_,run_underlying ht,run_underlying hk,sizeOf,typeInfo,hi,hs.len,hroom,hs.cells,Addr.add_lit,hst]
   refine⟨_,_,hr,⟨hlen, .inr ⟨g,cap,_,rfl,qAr _,setRow_heap w g cur _ e _ hg,hroom,hcm,?_,?_⟩⟩,oU _ _ _,λb hb=> .inr hb⟩
   ·simp only[qBv,qAm,qAq,qA8,qAi];omega
   ·rw[htake,<-hlen];exact qB5
  ·have holds:∀j u,xs[j]? =some u->w.cell? ((⟨g,0,none⟩:Addr).add j)=some u:=hown.cells (g:=g) rfl;have hr:=run_append_grow_src (P:=P) w t tx ty e i z ht hi hz (some ⟨g,0,none⟩) n cap xs (run_firstCells_some w.drew i.size n ⟨g,0,none⟩ n cap xs hown.1 (by simpa using holds)) x m news hs (by omega) (by omega) (growslice_fits (by omega) hbytes);have hgr:=hfresh cap (by omega) (Value.ownBlock (.slice (some ⟨g,0,none⟩) n cap));exact⟨_,_,hr,hgr.1,hgr.2,λb hb=> .inl (by simp[Value.ownBlock]at hb;omega)⟩
end
end Go.Gv
