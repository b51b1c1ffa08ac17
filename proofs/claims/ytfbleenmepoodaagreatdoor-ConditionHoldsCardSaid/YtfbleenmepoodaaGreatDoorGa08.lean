/- A part of the framework and of the walks: S10. -/
import Derived.Test.YtfbleenmepoodaaGreatDoorGa07
set_option linter.unusedSimpArgs false
set_option linter.unusedVariables false
set_option linter.unusedSectionVars false
set_option linter.defProp false
namespace Go.Gv
open Go.ChangeMaps (setBlock)
section
variable {P:Program}{o:Oper}{a:Act}{E:sw}{tp I:Nat->Prop}{H:aa}{w:World}{σ:Sg}
theorem Ne{q:Value}{d:D}{Hr:aa}{K:List D->Prop}(hx:R tp I w q d)(hle:∀i r,Hr i=some r->H i=some r)(hsat:∀i r,H i=some r->ResOk (R tp I w) w r)(hv:yt d Hr K):
 ∃es,K es/\((q= .map none/\es=[])\/ ∃b ents clock,q= .map (some b)/\w.heap[b]? =some (.map ents clock)/\kV ents clock/\uu (R tp I w) ents es):=by
 unfold yt at hv;split at hv
 ·rename_i es;cases hx with
  | nomp=>exact⟨[],hv, .inl ⟨rfl,rfl⟩⟩
  | mp b ents clock _ hI hh hl hb h=>exact⟨es,hv, .inr ⟨b,ents,clock,rfl,hh,hb,hl,h⟩⟩
 ·exact⟨[],hv, .inl ⟨hx.inv_v,rfl⟩⟩
 ·rename_i id x;split at hv
  ·rename_i x' es hH;obtain⟨rfl,hk⟩:=hv;obtain⟨b,ents,clock,rfl,h1,h2,h3⟩:=hsat _ _ (hle _ _ hH);cases hx;exact⟨es,hk, .inr ⟨b,ents,clock,rfl,h1,h2,h3⟩⟩
  ·exact hv.elim
 ·exact hv.elim
def tX{ents:Array MapEntry}{es:List D}(h:uu (R tp I w) ents es){j:Nat}{e:MapEntry}(he:ents[j]? =some e):∃c,es[j]? =some c/\R tp I w (.tuple #[e.key,e.val]) c:=by
 have hj:j < es.length:=by rw[<-h.1];exact(qjG.1 he).1
 exact⟨es[j],qjC hj,h.2 j e _ he (qjC hj)⟩
def HG{ents:Array MapEntry}{es:List D}{ka:Bool}{ks:List KK}(h:uu (R tp I w) ents es)(hf:es.all (Pd ka ks)=true):∀e∈ents.toList,H9 w ka ks e.key:=by
 intro e he;obtain⟨j,hj⟩:=qjY.1 he;have hj':ents[j]? =some e:=by simpa using hj
 obtain⟨c,hc,hR⟩:=tX h hj';obtain⟨k,v,rfl,hk⟩:=yE (qjF.1 hf c (qjD hc));exact Hx hk hR.ent.1
theorem NY{t:TypeId}{z:List Value}{agg:Bool}(hz:dt P t=some z)(hag:BF P t agg=true):∃zv,(zeroValue t).run P w= .ok zv w/\R tp I w zv (La agg z):=by
 obtain⟨i,zv,hi,hzv,hzc,hsz,hz1,hz2⟩:=cN hz;refine⟨zv,by simp[zeroValue,typeInfo,hi,hzv],?_⟩;have hcs:=gV (tp:=tp) (I:=I) (w:=w) hz2 hz1;simp only[BF,hi,qjV,hzv]at hag;split at hag
 ·rename_i cs hcs';cases hcs';subst hag;simp only[La,if_true];rw[<-hzc];have:(Value.agg cs)= .agg cs.toList.toArray:=by simp
  rw[this];have hce:(Value.agg cs).cells.toList=cs.toList:=rfl;rw[<-this,hce];rw[hce]at hzc;rw[<-hzc]at hcs hz1;have h2:=R.agg (tp:=tp) (I:=I) (w:=w) cs.toList (cs.toList.map lL) (by simp) (λx hx=>qjF.1 hz1 x hx) (λk x c h1 h2=>(hcs k x c h1 h2).2);simpa using h2
 ·rename_i x hne hx;cases hx;simp only[qjE,qlu]at hag;obtain⟨rfl,h1⟩:=hag;have hc1:zv.cells= #[zv]:=by cases zv <;> first|rfl|(simp[Value.oneCell']at h1)
  rw[hc1]at hzc;subst hzc;have:=hcs 0 zv (lL zv) rfl rfl;simpa [La]using this.2
 ·cases hag
theorem O6{t kt et:TypeId}{x k:Operand}{ok agg ka:Bool}{ks:List KK}{z:List Value}{K:D->Prop}(ho:o.op= .lookup t x k ok)(ht:P.underlying t=some (.map kt et))(hkt:KeyT P kt ka ks)(hz:dt P et=some z)(hag:BF P et agg=true)
 (hx:R tp I w (a.eval x) (ev σ x)) (hk:R tp I w (a.eval k) (ev σ k)) {Hr:aa} (hle:∀i r,Hr i=some r->H i=some r) (hsat:∀i r,H i=some r->ResOk (R tp I w) w r)
 (hv:ah (.m (.look ok agg ka ks z) [x,k]) σ Hr K):Good P o a tp I w K:=by
 simp only[ah,qq,qj2,qkB]at hv;obtain⟨es,⟨hall,hfk,hfound,hno⟩,hm⟩:=Ne hx hle hsat hv;have hkv:=Hx hfk hk;obtain⟨zv,hz1,hz2⟩:=NY (P:=P) (w:=w) (tp:=tp) (I:=I) hz hag;have hck:∀em,(Instr.checkKey em 10000 kt (a.eval k)).run P w= .ok () w:=λem=>by
  obtain⟨xs,h1,h2⟩:=hkv;rw[h1];exact qbS em 50 kt ks ka hkt.c hkt.a 9950 xs h2
 have main:∀ (ents:Array MapEntry),(∀e∈ents.toList,H9 w ka ks e.key)->(∀ (j:Nat) (e:MapEntry),ents[j]? =some e->∃c,es[j]? =some c/\R tp I w (.tuple #[e.key,e.val]) c)->
  (∀c∈es,∃e∈ents.toList,R tp I w (.tuple #[e.key,e.val]) c)->
  (∀r:Option (Nat×Value),(Instr.findKey kt (a.eval k) ents.toList).run P w= .ok r w->(execOp a.eval o).run P w= .ok (.value (match r with|some (_,v)=>if ok then .tuple #[v, .bool true]else v|none=>if ok then .tuple #[zv, .bool false]else zv)) w)->Good P o a tp I w K:=by
  intro ents h1 h2 h3 hrun;obtain⟨r,hr,hcase⟩:=Hy (P:=P) hkt hkv ents.toList h1;have hex:=hrun r hr;rcases hcase with⟨rfl,hne⟩|⟨j,e,rfl,hj,hke⟩
  ·refine⟨_,qdw ok (La agg z) false,hex,?_,hno λhp v hmem=>?_⟩
   ·cases ok with
    | true=>exact R.mk_ent hz2 (.bool _)
    | false=>exact hz2
   ·obtain⟨e,he,hR⟩:=h3 _ hmem;exact hne e he (GN hp hR.ent.1 hk)
  ·obtain⟨c,hc,hR⟩:=h2 j e (by simpa using hj);obtain⟨k',v',rfl,_⟩:=yE (qjF.1 hall c (qjD hc));refine⟨_,qdw ok v' true,hex,?_,hfound k' v' (qjD hc) ⟨tp,I,w,a.eval k,hk,by rw[<-hke];exact hR.ent.1⟩⟩;cases ok with
   | true=>exact R.mk_ent hR.ent.2 (.bool _)
   | false=>exact hR.ent.2
 rcases hm with⟨hq,rfl⟩|⟨b,ents,clock,hq,hb,hbo,hents⟩
 ·refine main #[] (λe he=>by simp at he) (λj e he=>by simp at he) (λc hc=>by simp at hc) λr hr=>?_
  have hr':(Instr.findKey kt (a.eval k) []).run P w= .ok r w:=hr;simp only[execOp,ho,hq,Instr.lookup,qjR,run_underlying ht,qjI,qj0,hck,hr'];rcases r with _|⟨i,v⟩ <;> cases ok <;> simp[hz1]
 ·refine main ents (HG hents hall) (λj e he=>tX hents he) (λc hc=>?_) λr hr=>?_
  ·obtain⟨j,hj⟩:=qjY.1 hc;have hlt:j < ents.size:=by rw[hents.1];exact(qjA.1 hj).1
   exact⟨ents[j],by simp,hents.2 j _ c (by simp[hlt]) hj⟩
  ·simp only[execOp,ho,hq,Instr.lookup,qjR,run_underlying ht,qjI,qj0,hck,hr,getObj,Sem.run,hb];rcases r with _|⟨i,v⟩ <;> cases ok <;> simp[hz1]
theorem O4{t kt et:TypeId}{c:Call}{x:Operand}{K:D->Prop}(ho:o.op= .call c)(hc:c.callee= .builtin .len)(hat:c.argTypes.toList=[t])(hargs:c.args.toList=[x])(ht:P.underlying t=some (.map kt et))
 (hx:R tp I w (a.eval x) (ev σ x)) {Hr:aa} (hle:∀i r,Hr i=some r->H i=some r) (hsat:∀i r,H i=some r->ResOk (R tp I w) w r)
 (hv:ah (.m .len [x]) σ Hr K):Good P o a tp I w K:=by
 obtain⟨cl,⟨args⟩,⟨ats⟩⟩:=c;simp only at hat hargs hc;subst hat;subst hargs;subst hc;simp only[ah,qq,qj2,qkB]at hv;obtain⟨es,hk,hm⟩:=Ne hx hle hsat hv;rcases hm with⟨hq,rfl⟩|⟨b,ents,clock,hq,hb,hbo,hents⟩
 ·exact⟨_,_,by simp[execOp,ho,resolve,invoke,builtin,hq,Builtin.len_,run_underlying ht,goInt], .int _ _,hk⟩
 ·refine⟨.int .i64 es.length,_,?_, .int _ _,hk⟩;rw[<-hents.1];simp[execOp,ho,resolve,invoke,builtin,hq,Builtin.len_,run_underlying ht,goInt,getObj,Sem.run,hb]
theorem Nd{m:Option Nat}{since last:Nat}{seen:Array Nat}{cur ds:List D}(h:R tp I w (Ey m since seen last) (.mst cur ds)):
 (m=none/\cur=[]/\ds=[])\/ ∃b es clock ce,m=some b/\I b/\w.heap[b]? =some (.map es clock)/\kV es clock/\(∀e∈es.toList,e.born < since)/\since<=last/\since<=clock/\(gB es seen).length=ds.length/\
   (cur=[]\/(cur.length=1/\seen.back? =some ce.born/\ce∈es.toList/\last=clock))/\(∀c,cur=[c]->R tp I w (.tuple #[ce.key,ce.val]) c)/\∀ (k:Nat) (e:MapEntry) (c:D),(gB es seen)[k]? =some e->ds[k]? =some c->R tp I w (.tuple #[e.key,e.val]) c:=by
 generalize hq:Ey m since seen last=q at h;have seenEq:∀s s':Array Nat,(s.map λ(n:Nat)=>Value.int .i64 n)=(s'.map λ(n:Nat)=>Value.int .i64 n)->s=s':=λs s' h=>by
  have:=congrArg Array.toList h;rw[qk8,qk8]at this;have h2:=List.map_inj_right (f:=λ(n:Nat)=>Value.int .i64 n) (λx y hxy=>by injection hxy with _ h;exact Int.ofNat.inj h) |>.1 this
  exact qkT.1 h2
 cases h with
 | nomst s l sn=>
   simp only[Ey,qlU]at hq;have:=congrArg Array.toList hq;simp only[qke,Value.map.injEq]at this;exact .inl ⟨this.1,rfl,rfl⟩
 | mst b es clock s l sn ce _ _ hI hh hb hs hsl hl hc hcr h=>
   simp only[Ey,qlU]at hq;have:=congrArg Array.toList hq;simp only[qke,Value.map.injEq,Value.int.injEq,Value.agg.injEq,true_and,and_true,Int.ofNat_inj]at this;obtain⟨rfl,h1,h2,h3⟩:=this;have h1':since=s:=by simpa using h1
   have h3':last=l:=by simpa using h3
   have h2':=seenEq _ _ h2;subst h1';subst h3';subst h2';exact .inr ⟨b,es,clock,ce,rfl,hI,hh,hb,hs,hsl.1,hsl.2,hl,hc,hcr,h⟩
theorem L8{x:Operand}{K:D->Prop}(ho:o.op= .entry x)(hx:R tp I w (a.eval x) (ev σ x)){Hr:aa}(hle:∀i r,Hr i=some r->H i=some r)(hsat:∀i r,H i=some r->ResOk (R tp I w) w r)
 (hv:ah (.m .entry [x]) σ Hr K):Good P o a tp I w K:=by
 simp only[ah,qq,qj2,qkB]at hv;generalize hq:a.eval x=q at hx;split at hv <;> try (exact hv.elim)
 ·rename_i h1 h2;cases h1
 ·rename_i h1 h2;cases h1
 ·rename_i ds id b off _ hds;simp only[qke,and_true]at hds;rw[hds]at hx;obtain⟨rfl,hv⟩:=hv;split at hv
  ·rename_i b' e left hH;obtain⟨rfl,hk⟩:=hv;cases hx;obtain⟨m,since,last,seen,g1,g2⟩:=hsat _ _ (hle _ _ hH);rcases Nd g2 with⟨_,h,_⟩|⟨bm,es,clock,ce,rfl,hI,hb,hbo,hs,hsl,hsc,hl,hc,hcr,hle2⟩
   ·cases h
   ·rcases hc with h|⟨_,hbk,hce,rfl⟩
    ·cases h
    ·have hf:es.find? (·.born==ce.born)=some ce:=by rw[<-Array.find?_toList];exact find_born ce es.toList hbo.2 hce
     refine⟨.tuple #[ce.key,ce.val],e,?_,hcr e rfl,hk⟩;simp[execOp,ho,hq,Instr.entry,getObj,Sem.run,g1,hb,hbk,hf]
  ·rename_i b' m xm clk seen hH;obtain⟨rfl,hv⟩:=hv;unfold NG at hv;split at hv
   ·rename_i x' es st clk' hM;obtain⟨rfl,rfl,hv⟩:=hv;split at hv
    ·rename_i s hs;obtain⟨hmem,hK⟩:=hv;cases hx;obtain⟨mb,rfl,g1⟩:=hsat _ _ (hle _ _ hH);obtain⟨bm,ents,hbm,hb,hbo,rfl,hents⟩:=hsat _ _ (hle _ _ hM);cases hbm;obtain⟨ce,hce,rfl⟩:=qjN.1 hmem;have hbk:seen.toArray.back? =some ce.born:=by simpa using hs
     have hf:ents.find? (·.born==ce.born)=some ce:=by rw[<-Array.find?_toList];exact find_born ce ents.toList hbo.2 hce
     obtain⟨j,hj⟩:=qjY.1 hce;have hj':ents[j]? =some ce:=by simpa using hj
     obtain⟨c,hc,hR⟩:=tX hents hj';refine⟨.tuple #[ce.key,ce.val],c,?_,hR,hK j c (by rw[qjU,hj];rfl) hc⟩;simp[execOp,ho,hq,Instr.entry,getObj,Sem.run,g1,hb,hbk,hf]
    ·exact hv.elim
   ·exact hv.elim
  ·exact hv.elim
 ·rename_i h1 h2;cases h1
theorem Pa{t el:TypeId}{len sz:Nat}{x i:Operand}{K:D->Prop}(ho:o.op= .indexAddr t x i)(ht:P.underlying t=some (.array len el))(hs:cj P el=some sz)
 (hx:R tp I w (a.eval x) (ev σ x)) (hi:R tp I w (a.eval i) (ev σ i)) {Hr:aa} (hv:ah (.m (.aidx len sz) [x,i]) σ Hr K):Good P o a tp I w K:=by
 simp only[ah,qj2,qkB]at hv;generalize hid:ev σ i=id at hi hv;have main:∀ (kk:IntKind) (k:Int),a.eval i= .int kk k->0<=k->k < len->RS (k.toNat*sz) (ev σ x) K->Good P o a tp I w K:=by
  intro kk k hk h0 h1 hm;refine nF (d:=k.toNat*sz) (x:=x) (λb off hb=>?_) hx (H:=λ_=>none) hm;simp[execOp,ho,hk,hb,Instr.indexAt,asIntOf,run_underlying ht,Instr.sureAddr,h0,h1,aC hs,gU]
 unfold qq at hv;split at hv <;> try (exact hv.elim)
 all_goals first
  | (rename_i h _;cases h;done)
  | skip
 rename_i heq1 heq2;cases heq1;simp only[qke,and_true]at heq2;obtain⟨rfl,rfl⟩:=heq2;exact main _ _ hi.inv_v hv.1 hv.2.1 hv.2.2
def ng{w:World}{b:Nat}{o0:Obj}(o:Obj)(hb:w.heap[b]? =some o0):(setBlock w b o).heap[b]? =some o:=by
 have hlt:=(qjG.1 hb).1;simp[setBlock,hlt]
def Hm{w:World}{b c:Nat}(o:Obj)(h:c≠b):(setBlock w b o).heap[c]? =w.heap[c]?:=by
 have h':b≠c:=λe=>h e.symm
 simp[setBlock,qkG,h']
def qs(w:World)(b:Nat)(o:Obj):GrB w (setBlock w b o) (some b):=
 ⟨⟨rfl,rfl,rfl,by simp[setBlock],λk _ hk=>Hm o (λe=>hk (by rw[e]))⟩,qjL _⟩
def qag{t ty:Nat}{K:D->aa->Prop}(hst:StW E tp H w)(ho:o.op= .makeMap ty none)(hv:∀x,K (.own t x) (aj H t (some (.mrow x [])))):cq P o a E tp H w K:=by
 refine⟨_, .map (some w.heap.size), .own t (.map (some w.heap.size)),_,w.alloc (.map #[] 0),?_, .inl rfl,lc (r':= .mrow (.map (some w.heap.size)) []) hst (λb hb=>by cases hb;rfl) (λm=>?_), .own _ _ rfl,hv _⟩
 ·simp only[execOp,ho,qkE,qjR];rfl
 ·exact⟨w.heap.size, #[],0,rfl,heap_alloc_new _ _,⟨λe he=>by simp at he,by simp⟩,rfl,λk e c he=>by simp at he⟩
def KV{es:Array MapEntry}{clock i:Nat}{k v:Value}(h:kV es clock):kV (es.modify i λe=>{ e with key:=k,val:=v }) clock:=by
 have hm:((es.modify i λe=>{ e with key:=k,val:=v }).toList.map (·.born))=es.toList.map (·.born):=by
  refine qkQ λj=>?_
  rw[qjU,qjU,qj6,qj6,qlG];by_cases hij:i=j
  ·subst hij;simp only[if_true,Option.map_map];cases es[i]? <;> rfl
  ·rw[if_neg hij]
 refine⟨λe he=>?_,by rw[hm];exact h.2⟩;have:e.born∈ (es.modify i λe=>{ e with key:=k,val:=v }).toList.map (·.born):=qjN.2 ⟨e,he,rfl⟩;rw[hm]at this;obtain⟨e',he',hb⟩:=qjN.1 this;rw[<-hb];exact h.1 e' he'
def Pp{es:Array MapEntry}{clock:Nat}{k v:Value}(h:kV es clock):kV (es.push { key:=k,val:=v,born:=clock }) (clock+1):=by
 refine⟨λe he=>?_,?_⟩
 ·rw[qlw,qjM,qkL]at he;rcases he with he|rfl
  ·exact Nat.lt_succ_of_lt (h.1 e he)
  ·exact Nat.lt_succ_self _
 ·rw[qlw,qkO,qlV];refine⟨h.2,by simp,λx hx y hy=>?_⟩;obtain⟨e,he,rfl⟩:=qjN.1 hx;simp at hy;subst hy;have:=h.1 e he;omega
theorem Q3{ty kt et:TypeId}{x k v:Operand}{ka:Bool}{ks:List KK}{K:D->aa->Prop}(hst:StW E tp H w)(ho:o.op= .mapUpdate ty x k v\/o.op= .insert ty x k v)(ht:P.underlying ty=some (.map kt et))(hkt:KeyT P kt ka ks)
 (hx:R tp (aI E.O tp H w) w (a.eval x) (ev σ x)) (hk:R tp (aI E.O tp H w) w (a.eval k) (ev σ k)) (hvv:R tp (aI E.O tp H w) w (a.eval v) (ev σ v))
 (hv:aP (.m (.upd ka ks) [x,k,v]) o.dst σ H K):cq P o a E tp H w K:=by
 simp only[aP,qj2,qkB]at hv;generalize hq:a.eval x=q at hx;generalize hxd:ev σ x=xd at hx hv;cases xd <;> try (exact hv.elim)
 ·rename_i id xv;cases hx;simp only[jy]at hv;split at hv
  ·rename_i x' es hH;obtain⟨rfl,hall,hfk,hup,hno⟩:=hv;have hsat:∀i r,H i=some r->ResOk (R tp (aI E.O tp H w) w) w r:=hst.sat.ok;obtain⟨b,ents,clock,rfl,hb,hbo,hents⟩:=hsat _ _ hH;have hkv:=Hx hfk hk;have hck:(Instr.checkKey false 10000 kt (a.eval k)).run P w= .ok () w:=by
    obtain⟨xs,h1,h2⟩:=hkv;rw[h1];exact qbS false 50 kt ks ka hkt.c hkt.a 9950 xs h2
   obtain⟨r,hr,hcase⟩:=Hy (P:=P) hkt hkv ents.toList (HG hents hall);have hset:∀ob:Obj,(setObj b ob).run P w= .ok () (setBlock w b ob):=λob=>by simp[setObj,Sem.run,hb,setBlock]
   have rv:∀ (ents':Array MapEntry) (clock':Nat) (es':List D),(Instr.mapUpdate ty (.map (some b)) (a.eval k) (a.eval v)).run P w= .ok () (setBlock w b (.map ents' clock'))->kV ents' clock'->
    (∀ (Q:Value->D->Prop),(∀y d,R tp (aI E.O tp H w) w y d->Q y d)->(∀ (k' v':Value) (c d:D),Q k' c->Q v' d->Q (.tuple #[k',v']) (.tup [c,d]))->uu Q ents' es')->K .undef (aj H id (some (.mrow (.map (some b)) es')))->cq P o a E tp H w K:=by
    intro ents' clock' es' hrun hbo' hents' hK;have hm:=hst.own id (some (.mrow (.map (some b)) es')) (qs w b (.map ents' clock')) (λc hc=>by cases hc;exact⟨_,hH,rfl⟩) (λr c h1 h2=>by cases h1;cases h2;exact .inr ⟨_,hH,rfl⟩) (λm r h1=>by
     cases h1;exact⟨b,ents',clock',rfl,ng _ hb,hbo',hents' _ m λk' v' c d h1 h2=>R.mk_ent h1 h2⟩)
    refine⟨.skip,Go.undef, .undef,_,_,?_, .inr ⟨rfl,rfl⟩,hm, .undef,hK⟩;rcases ho with ho|ho <;> simp[execOp,ho,hq,hrun]
   rcases hcase with⟨rfl,hne⟩|⟨j,e,rfl,hj,hke⟩
   ·refine rv (ents.push { key:=a.eval k,val:=a.eval v,born:=clock }) (clock+1) (es++ [.tup [ev σ k,ev σ v]]) ?_ (Pp hbo) (λQ hQ hT=>⟨by simp[hents.1],λi e c he hc=>?_⟩) (hno λhp v' hmem=>?_)
    ·simp[Instr.mapUpdate,run_underlying ht,getObj,Sem.run,hb,hck,hr,hset]
    ·rw[Array.getElem?_push]at he;split at he
     ·rename_i hi;cases he;rw[qjK (by rw[<-hents.1];omega)]at hc;rw[<-hents.1,hi]at hc;simp at hc;subst hc;exact hT _ _ _ _ (hQ _ _ hk) (hQ _ _ hvv)
     ·have hlt:=(qjG.1 he).1;rw[qjQ (by rw[<-hents.1];exact hlt)]at hc;exact hQ _ _ (hents.2 i e c he hc)
    ·obtain⟨i,hi⟩:=qjY.1 hmem;have hlt:i < ents.size:=by rw[hents.1];exact(qjA.1 hi).1
     have hR:=hents.2 i ents[i] _ (by simp[hlt]) hi;exact hne ents[i] (by simp) (GN hp hR.ent.1 hk)
   ·have hj':ents[j]? =some e:=by simpa using hj
    obtain⟨c,hc,hR⟩:=tX hents hj';obtain⟨k',v',rfl,_⟩:=yE (qjF.1 hall c (qjD hc));have hjl:j < es.length:=(qjA.1 hc).1;have hsplit:es=es.take j++D.tup [k',v']::es.drop (j+1):=by
     have h1:=(qjA.1 hc).2;rw[<-h1,<-qkq hjl,qkr]
    have hset2:es.take j++D.tup [ev σ k,ev σ v]::es.drop (j+1)=es.set j (.tup [ev σ k,ev σ v]):=by
     rw[qlf,if_pos hjl]
    have hK:=hup _ k' v' _ hsplit ⟨tp,aI E.O tp H w,w,a.eval k,hk,by rw[<-hke];exact hR.ent.1⟩;rw[hset2]at hK;refine rv (ents.modify j λe=>{ e with key:=a.eval k,val:=a.eval v }) clock (es.set j (.tup [ev σ k,ev σ v])) ?_ (KV hbo) (λQ hQ hT=>⟨by simp[hents.1],λi e2 c2 he hc2=>?_⟩) hK
    ·have hst2:(Instr.keyThatStays e.key (a.eval k)).run P w= .ok (a.eval k) w:=by rw[hke];exact P7 hkt.one hkv
     simp[Instr.mapUpdate,run_underlying ht,getObj,Sem.run,hb,hck,hr,hset,hj',hst2]
    ·rw[qlG]at he;by_cases hij:j=i
     ·subst hij;rw[if_pos rfl,hj']at he;cases he;rw[qkJ hjl]at hc2;cases hc2;exact hT _ _ _ _ (hQ _ _ hk) (hQ _ _ hvv)
     ·rw[if_neg hij]at he;rw[List.getElem?_set_ne hij]at hc2;exact hQ _ _ (hents.2 i e2 c2 he hc2)
  ·exact hv.elim
def Uw{b:Nat}{ents:Array MapEntry}{clock:Nat}{es:List D}(hI:I b)(hb:w.heap[b]? =some (.map ents clock))(hbo:kV ents clock)(hents:uu (R tp I w) ents es):R tp I w (Ey (some b) clock #[] clock) (.mst [] es):=by
 have hl:gB ents #[]=ents.toList:=by simp[gB]
 refine .mst b ents clock clock clock #[] default [] es hI hb hbo hbo.1 ⟨qjL _,qjL _⟩ (by rw[hl,qjT];exact hents.1) (.inl rfl) (λc h=>by cases h) (λk e c he hc=>?_);rw[hl,qj6]at he;exact hents.2 k e c he hc
theorem Xi{t ty kt et:TypeId}{x:Operand}{K:D->aa->Prop}(hst:StW E tp H w)(ho:o.op= .range ty x)(ht:P.underlying ty=some (.map kt et))(hx:R tp (aI E.O tp H w) w (a.eval x) (ev σ x))(hd:o.dst=some t)
 (hv:aP (.m .rng [x]) o.dst σ H K):cq P o a E tp H w K:=by
 simp only[aP,jy,qj2,qkB,hd]at hv;generalize hq:a.eval x=q at hx;have rv:∀ (m:Option Nat) (clock:Nat) (es:List D),(Instr.range ty q).run P w= .ok (.pointer (some ⟨w.heap.size,0,none⟩)) (w.alloc (.mapIter m clock #[] clock))->(∀ (I':Nat->Prop) (w':World),(∀y d,R tp (aI E.O tp H w) w y d->R tp I' w' y d)->R tp I' w' (Ey m clock #[] clock) (.mst [] es))->
  (∀b,K (.bptr t b 0) (aj H t (some (.miter b [] es))))->cq P o a E tp H w K:=by
  intro m clock es hrun hR hK;refine⟨_, .pointer (some ⟨w.heap.size,0,none⟩), .bptr t w.heap.size 0,_,w.alloc (.mapIter m clock #[] clock),?_, .inl rfl,lc (r':= .miter w.heap.size [] es) hst (λb hb=>by cases hb;rfl) (λmv=>⟨m,clock,clock, #[],heap_alloc_new _ _,hR _ _ mv⟩), .bptr _ _ _,hK _⟩;simp only[execOp,ho,hq,qjR,hrun,qjI,qj0]
 split at hv
 ·rename_i es e1;rw[e1]at hx;cases hx with
  | nomp=>exact rv none 0 [] (by simp[run_range_nilMap w ty kt et ht]) (λI' w' _=> .nomst _ _ _) hv
  | mp b ents clock _ hI hh hl hb h=>
    exact rv (some b) clock es (by simp[run_range_map w ty kt et b ents clock ht hh]) (λI' w' mv=>mv _ _ (Uw hI hh hb ⟨hl,h⟩)) hv
 ·rename_i e1;rw[e1]at hx;have:=hx.inv_v;subst this;exact rv none 0 [] (by simp[run_range_nilMap w ty kt et ht]) (λI' w' _=> .nomst _ _ _) hv
 ·rename_i id xv e1;rw[e1]at hx;cases hx;unfold QJ at hv;split at hv
  ·rename_i x' es hH;obtain⟨rfl,hK⟩:=hv;obtain⟨b,ents,clock,rfl,h1,h2,h3⟩:=hst.sat.ok _ _ hH;have hm1:=hst.own id (some (.raw (.mrs (.map (some b)) es (ents.toList.map (·.born)) clock))) (dV w none) (λc hc=>by cases hc) (λr c k1 k2=>by cases k1;exact .inr ⟨_,hH,k2⟩) (λmv r k1=>by
    cases k1;exact⟨b,ents,rfl,h1,h2,rfl,h3.1,λk e c he hc=>mv _ _ (h3.2 k e c he hc)⟩)
   have hm2:=lc (t:=t) (ob:= .mapIter (some b) clock #[] clock) (r':= .raw (.mit w.heap.size id (.map (some b)) clock [])) hm1.1 (λc hc=>by cases hc;rfl) (λmv=>⟨b,rfl,heap_alloc_new _ _⟩);refine⟨_, .pointer (some ⟨w.heap.size,0,none⟩), .bptr t w.heap.size 0,_,w.alloc (.mapIter (some b) clock #[] clock),?_, .inl rfl,⟨hm2.1,λy d h=>hm2.2 _ _ (hm1.2 _ _ h)⟩, .bptr _ _ _,hK w.heap.size _ clock ⟨by rw[qka,qjT];exact h3.1,h2.2,λs hs=>?_⟩⟩
   ·simp only[execOp,ho,hq,qjR,run_range_map w ty kt et b ents clock ht h1,qjI,qj0]
   ·obtain⟨e,he,rfl⟩:=qjN.1 hs;exact h2.1 e he
  ·exact hv.elim
 ·exact hv.elim
def Jd{α:Type}{l:List α}{j:Nat}{x:α}(h:l[j]? =some x):l=l.take j++x::l.drop (j+1):=by
 have hj:=(qjA.1 h).1;have h1:=(qjA.1 h).2;rw[<-h1,<-qkq hj,qkr]
def ON{α β:Type}{f:α->β}{l1 l2:List α}{x:α}(h:((l1++x::l2).map f).Nodup):∀y∈l1++l2,f y≠f x:=by
 rw[qkO,qj2,qlV]at h;obtain⟨_,h2,h3⟩:=h;intro y hy e;rcases qjM.1 hy with hy|hy
 ·exact h3 (f y) (qjN.2 ⟨y,hy,rfl⟩) (f x) (by simp) e
 ·exact(List.nodup_cons.1 h2).1 (qjN.2 ⟨y,hy,e⟩)
theorem OW{es:Array MapEntry}{seen:Array Nat}{l1 l2:List MapEntry}{e:MapEntry}(hn:(es.toList.map (·.born)).Nodup)(h:gB es seen=l1++e::l2):gB es (seen.push e.born)=l1++l2:=by
 have hnl:((gB es seen).map (·.born)).Nodup:=by
  refine List.Nodup.sublist (List.Sublist.map _ List.filter_sublist) hn
 rw[h]at hnl;have hne:=ON hnl;have h2:gB es (seen.push e.born)=(gB es seen).filter λy=>!(y.born==e.born):=by
  simp only[gB,List.filter_filter];refine List.filter_congr λy _=>?_
  rw[Array.contains_push];cases seen.contains y.born <;> cases hh:(y.born==e.born) <;> simp
 rw[h2,h,qkZ,qkC];have he:(!(e.born==e.born))=false:=by simp
 rw[he];simp only[qkc,if_false];rw[<-qkZ];exact qlM.2 λy hy=>by simpa using hne y hy
theorem Um{x:Operand}{K:D->aa->Prop}(hst:StW E tp H w)(ho:o.op= .next x false)(hx:R tp (aI E.O tp H w) w (a.eval x) (ev σ x))(hv:aP (.m .next [x]) o.dst σ H K):cq P o a E tp H w K:=by
 simp only[aP,qj2,qkB]at hv;generalize hq:a.eval x=q at hx;generalize hxd:ev σ x=xd at hx hv;cases xd <;> try (exact hv.elim)
 rename_i id b off;simp only[jy]at hv;obtain⟨rfl,hv⟩:=hv;cases hx;split at hv
 ·rename_i b' cur left hH;obtain⟨rfl,h1,h2⟩:=hv;obtain⟨m,since,last,seen,g1,g2⟩:=hst.sat.ok id _ hH;have over:(Instr.next (.pointer (some ⟨b',0,none⟩)) false o.type).run P w= .ok (.tuple #[.bool false]) w->left=[]->cq P o a E tp H w K:=λhrun hl=>
   ⟨_,_,_,_,w,by simp only[execOp,ho,hq,qjR,hrun,qjI,qj0], .inl rfl,⟨hst,λy e h=>h⟩, .tup [.bool false] [.v (.bool false)] rfl (λk y c h1 h2=>by
    match k with
    | 0=>simp at h1 h2;subst h1;subst h2;exact .bool _
    | k+1=>simp at h1),h1 hl⟩
  rcases Nd g2 with⟨rfl,_,hl⟩|⟨bm,es,clock,ce,rfl,hI,hb,hbo,hs,hsl,hsc,hl,hc,hcr,hle2⟩
  ·exact over (by simp[Instr.next,getObj,Sem.run,g1]) hl
  ·rcases run_next_at (P:=P) w o.type b' bm since last seen es clock g1 hb hs hsl with⟨h0,hrun⟩|⟨e,he,w1,hw1,hrun⟩
   ·have:(gB es seen).length=0:=by
     have h3:(leftOf es seen).toList=gB es seen:=by simp[leftOf,gB]
     rw[<-h3,qjT];exact h0
    exact over hrun (qkf.1 (by omega))
   ·have h3:(leftOf es seen).toList=gB es seen:=by simp[leftOf,gB]
    rw[h3]at he;obtain⟨j,hj⟩:=qjY.1 he;have hjl:j < left.length:=by rw[<-hl];exact(qjA.1 hj).1
    have hd:left[j]? =some left[j]:=qjC hjl;have hR:=hle2 j e _ hj hd;have hsp:=Jd hj;have hds:=Jd hd;have hpush:=OW hbo.2 hsp;have hgr:GrB w (setBlock w1 b' (.mapIter (some bm) since (seen.push e.born) clock)) (some b'):=by
     rcases hw1 with rfl|rfl
     ·exact qs _ _ _
     ·have:=qs w.drew b' (.mapIter (some bm) since (seen.push e.born) clock);exact⟨⟨rfl,rfl,rfl,this.size,this.block⟩,qkS _⟩
    have hb1:(setBlock w1 b' (.mapIter (some bm) since (seen.push e.born) clock)).heap[b']? =some (.mapIter (some bm) since (seen.push e.born) clock):=by
     rcases hw1 with rfl|rfl
     ·exact ng _ g1
     ·exact ng (w:=w.drew) _ g1
    have hlen:(left.take j++left.drop (j+1)).length=((gB es seen).take j++ (gB es seen).drop (j+1)).length:=by
     simp only[qj4,qj3,qkz,hl]
    have hgood:R tp (aI E.O tp H w) w (Ey (some bm) since (seen.push e.born) clock) (.mst [left[j]] (left.take j++left.drop (j+1))):=by
     refine .mst bm es clock since clock (seen.push e.born) e _ _ hI hb hbo hs ⟨hsc,hsc⟩ (by rw[hpush,hlen]) (.inr ⟨rfl,by simp,?_,rfl⟩) (λc hc=>by cases hc;exact hR) (λk y c hy hc=>?_)
     ·have:=qjD hj;exact(qk0.1 this).1
     ·rw[hpush]at hy;by_cases hk:k < j
      ·rw[qjQ (by rw[qj3];have:=(qjA.1 hj).1;omega),qjS,if_pos hk]at hy;rw[qjQ (by rw[qj3];omega),qjS,if_pos hk]at hc;exact hle2 k y c hy hc
      ·have hjl2:=(qjA.1 hj).1;have e1:((gB es seen).take j).length=j:=by rw[qj3];omega
       have e2:(left.take j).length=j:=by rw[qj3];omega
       rw[qjK (by rw[e1];omega),qkb,e1]at hy;rw[qjK (by rw[e2];omega),qkb,e2]at hc;exact hle2 _ y c hy hc
    have hm:=hst.own id (some (.miter b' [left[j]] (left.take j++left.drop (j+1)))) hgr (λc hc=>by cases hc;exact⟨_,hH,rfl⟩) (λr c h1 h2=>by cases h1;cases h2;exact .inr ⟨_,hH,rfl⟩) (λm r h1=>by
     cases h1;exact⟨some bm,since,clock,seen.push e.born,hb1,m _ _ hgood⟩)
    refine⟨_,_, .tup [.v (.bool true), .any, .any],_,_,by simp only[execOp,ho,hq,qjR,hrun,qjI,qj0], .inl rfl,hm, .tup [.bool true,e.key,e.val] _ rfl (λk y c h1 h2=>by
     match k with
     | 0=>simp at h1 h2;subst h1;subst h2;exact .bool _
     | 1=>simp at h1 h2;subst h1;subst h2;exact .any _
     | 2=>simp at h1 h2;subst h1;subst h2;exact .any _
     | k+3=>simp at h1),h2 _ _ _ hds⟩
 ·rename_i b' m xm clock seen hH;obtain⟨rfl,hv⟩:=hv;unfold Q9 at hv;split at hv
  ·rename_i x' es st clock' hM;obtain⟨rfl,rfl,h0,h1⟩:=hv;obtain⟨mb,rfl,g1⟩:=hst.sat.ok id _ hH;obtain⟨bm,ents,hbm,hb,hbo,rfl,hents⟩:=hst.sat.ok m _ hM;cases hbm;have h3:(leftOf ents seen.toArray).toList=gB ents seen.toArray:=by simp[leftOf,gB]
   rcases run_next_at (P:=P) w o.type b' mb clock' clock' seen.toArray ents clock' g1 hb hbo.1 (qjL _)with⟨hz,hrun⟩|⟨e,he,w1,hw1,hrun⟩
   ·have hm:=hst.own m (some (.mrow (.map (some mb)) es)) (dV w none) (λc hc=>by cases hc) (λr c k1 k2=>by cases k1;exact .inr ⟨_,hM,k2⟩) (λmv r k1=>by
     cases k1;exact⟨mb,ents,clock',rfl,hb,hbo,hents.1,λk e c he hc=>mv _ _ (hents.2 k e c he hc)⟩)
    refine⟨_,_, .tup [.v (.bool false)],_,w,by simp only[execOp,ho,hq,qjR,hrun,qjI,qj0], .inl rfl,hm, .tup [.bool false] [.v (.bool false)] rfl (λk y c k1 k2=>by
     match k with
     | 0=>simp at k1 k2;subst k1;subst k2;exact .bool _
     | k+1=>simp at k1),h0 λs hs=>?_⟩
    have h4:gB ents seen.toArray=[]:=qkf.1 (by rw[<-h3,qjT];exact hz);obtain⟨e,he,rfl⟩:=qjN.1 hs;have h5:=List.filter_eq_nil_iff.1 h4 e he;simpa using h5
   ·rw[h3]at he;obtain⟨he1,he2⟩:=qk0.1 he;have hns:e.born∉seen:=by simpa using he2
    have hgr:GrB w (setBlock w1 b' (.mapIter (some mb) clock' (seen.toArray.push e.born) clock')) (some b'):=by
     rcases hw1 with rfl|rfl
     ·exact qs _ _ _
     ·have:=qs w.drew b' (.mapIter (some mb) clock' (seen.toArray.push e.born) clock');exact⟨⟨rfl,rfl,rfl,this.size,this.block⟩,qkS _⟩
    have hb1:(setBlock w1 b' (.mapIter (some mb) clock' (seen.toArray.push e.born) clock')).heap[b']? =some (.mapIter (some mb) clock' (seen.toArray.push e.born) clock'):=by
     rcases hw1 with rfl|rfl
     ·exact ng _ g1
     ·exact ng (w:=w.drew) _ g1
    have hm:=hst.own id (some (.raw (.mit b' m (.map (some mb)) clock' (seen++ [e.born])))) hgr (λc hc=>by cases hc;exact⟨_,hH,rfl⟩) (λr c k1 k2=>by cases k1;cases k2;exact .inr ⟨_,hH,rfl⟩) (λmv r k1=>by
     cases k1;exact⟨mb,rfl,by rw[hb1];simp⟩)
    refine⟨_,_, .tup [.v (.bool true), .any, .any],_,_,by simp only[execOp,ho,hq,qjR,hrun,qjI,qj0], .inl rfl,hm, .tup [.bool true,e.key,e.val] _ rfl (λk y c k1 k2=>by
     match k with
     | 0=>simp at k1 k2;subst k1;subst k2;exact .bool _
     | 1=>simp at k1 k2;subst k1;subst k2;exact .any _
     | 2=>simp at k1 k2;subst k1;subst k2;exact .any _
     | k+3=>simp at k1),h1 _ (qjN.2 ⟨e,he1,rfl⟩) hns⟩
  ·exact hv.elim
 ·exact hv.elim
def Ah{α β:Type}(f:α->β):∀ (l:List α) (i:Nat),(l.eraseIdx i).map f=(l.map f).eraseIdx i
 | [],i=>by simp
 | a::l,0=>by simp
 | a::l,i+1=>by simp[Ah f l i]
theorem Xj{t kt et ty2:TypeId}{c:Call}{x k:Operand}{ka:Bool}{ks:List KK}{K:D->aa->Prop}(hst:StW E tp H w)(ho:o.op= .call c)(hc:c.callee= .builtin .delete)(hat:c.argTypes.toList=[t,ty2])(hargs:c.args.toList=[x,k])(ht:P.underlying t=some (.map kt et))(hkt:KeyT P kt ka ks)
 (hx:R tp (aI E.O tp H w) w (a.eval x) (ev σ x)) (hk:R tp (aI E.O tp H w) w (a.eval k) (ev σ k)) (hv:aP (.m (.del ka ks) [x,k]) o.dst σ H K):cq P o a E tp H w K:=by
 obtain⟨cl,⟨args⟩,⟨ats⟩⟩:=c;simp only at hat hargs hc;subst hat;subst hargs;subst hc;simp only[aP,qj2,qkB]at hv;generalize hq:a.eval x=q at hx;generalize hxd:ev σ x=xd at hx hv;cases xd <;> try (exact hv.elim)
 rename_i id xv;cases hx;simp only[jy]at hv;split at hv
 ·rename_i x' es st clock hH;obtain⟨rfl,hall,hfk,hup,hno⟩:=hv;obtain⟨b,ents,rfl,hb,hbo,rfl,hents⟩:=hst.sat.ok _ _ hH;have hkv:=Hx hfk hk;have hck:∀em,(Instr.checkKey em 10000 kt (a.eval k)).run P w= .ok () w:=λem=>by
   obtain⟨xs,h1,h2⟩:=hkv;rw[h1];exact qbS em 50 kt ks ka hkt.c hkt.a 9950 xs h2
  obtain⟨r,hr,hcase⟩:=Hy (P:=P) hkt hkv ents.toList (HG hents hall);have hset:∀ob:Obj,(setObj b ob).run P w= .ok () (setBlock w b ob):=λob=>by simp[setObj,Sem.run,hb,setBlock]
  have rv:∀ (ents':Array MapEntry) (es':List D) (st':List Nat),(∀ty,(Builtin.delete_ #[t,ty2] ty #[.map (some b),a.eval k]).run P w= .ok (.tuple #[]) (setBlock w b (.map ents' clock)))->kV ents' clock->ents'.toList.map (·.born)=st'->
   uu (R tp (aI E.O tp H w) w) ents' es'->K (.tup []) (aj H id (some (.raw (.mrs (.map (some b)) es' st' clock))))->cq P o a E tp H w K:=by
   intro ents' es' st' hrun hbo' hst' hents' hK;have hm:=hst.own id (some (.raw (.mrs (.map (some b)) es' st' clock))) (qs w b (.map ents' clock)) (λc hc=>by cases hc;exact⟨_,hH,rfl⟩) (λr c k1 k2=>by cases k1;cases k2;exact .inr ⟨_,hH,rfl⟩) (λmv r k1=>by
    cases k1;exact⟨b,ents',rfl,ng _ hb,hbo',hst',hents'.1,λk e c he hc=>mv _ _ (hents'.2 k e c he hc)⟩)
   refine⟨.value (.tuple #[]), .tuple #[], .tup [],_,_,?_, .inl rfl,hm, .tup [] [] rfl (λk x c h=>by simp at h),hK⟩;simp[execOp,ho,resolve,invoke,builtin,hq,hrun]
  rcases hcase with⟨rfl,hne⟩|⟨j,e,rfl,hj,hke⟩
  ·refine rv ents es _ (λty=>?_) hbo rfl hents (hno λhp v' hmem=>?_)
   ·simp[Builtin.delete_,run_underlying ht,getObj,Sem.run,hb,hck,hr,hset]
   ·obtain⟨i,hi⟩:=qjY.1 hmem;have hlt:i < ents.size:=by rw[hents.1];exact(qjA.1 hi).1
    have hR:=hents.2 i ents[i] _ (by simp[hlt]) hi;exact hne ents[i] (by simp) (GN hp hR.ent.1 hk)
  ·have hj':ents[j]? =some e:=by simpa using hj
   have hjl:j < ents.size:=(qjG.1 hj').1;obtain⟨c,hc,hR⟩:=tX hents hj';obtain⟨k',v',rfl,_⟩:=yE (qjF.1 hall c (qjD hc));have hl:(ents.eraseIdxIfInBounds j).toList=ents.toList.eraseIdx j:=by simp[Array.eraseIdxIfInBounds,hjl]
   refine rv (ents.eraseIdxIfInBounds j) (es.eraseIdx j) ((ents.toList.map (·.born)).eraseIdx j) (λty=>?_) ⟨λe he=>?_,?_⟩ ?_ ⟨?_,λi e2 c2 he hc2=>?_⟩ (hup j k' v' hc ⟨tp,aI E.O tp H w,w,a.eval k,hk,by rw[<-hke];exact hR.ent.1⟩)
   ·simp[Builtin.delete_,run_underlying ht,getObj,Sem.run,hb,hck,hr,hset]
   ·rw[hl]at he;exact hbo.1 e (List.mem_of_mem_eraseIdx he)
   ·rw[hl,Ah];exact hbo.2.sublist (List.eraseIdx_sublist _ _)
   ·rw[hl,Ah]
   ·rw[<-qjT,hl,List.length_eraseIdx,List.length_eraseIdx,qjT,hents.1]
   ·rw[<-qj6,hl,List.getElem?_eraseIdx]at he;rw[List.getElem?_eraseIdx]at hc2;split at he
    ·rename_i hij;rw[if_pos hij]at hc2;exact hents.2 i e2 c2 (by simpa using he) hc2
    ·rename_i hij;rw[if_neg hij]at hc2;exact hents.2 (i+1) e2 c2 (by simpa using he) hc2
 ·exact hv.elim
end
end Go.Gv
