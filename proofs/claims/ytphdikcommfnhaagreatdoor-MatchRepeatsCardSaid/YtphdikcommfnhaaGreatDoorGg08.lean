/- A part of the framework and of the walks: S10. -/
import Derived.Test.YtphdikcommfnhaaGreatDoorGg07
set_option linter.unusedSimpArgs false
set_option linter.unusedVariables false
set_option linter.unusedSectionVars false

namespace Go.Gv
open Go.ChangeMaps (setBlock)
section
variable {P:Program}{o:Oper}{a:Act}{E:xn}{tp I:Nat->Prop}{H:ab}{w:World}{σ:Sg}
theorem Tq{q:Value}{d:D}{Hr:ab}{K:List D->Prop}(hx:R tp I w q d)(hle:∀i r,Hr i=some r->H i=some r)(hsat:∀i r,H i=some r->ResOk (R tp I w) w r)(hv:yG d Hr K):
 ∃es,K es/\((q= .map none/\es=[])\/ ∃b ents clock,q= .map (some b)/\w.heap[b]? =some (.map ents clock)/\sJ ents clock/\ER (R tp I w) ents es):=by
 unfold yG at hv
 split at hv
 ·rename_i es
  cases hx with
  | nomp=>exact⟨[],hv, .inl ⟨rfl,rfl⟩⟩
  | mp b ents clock _ hI hh hl hb h=>exact⟨es,hv, .inr ⟨b,ents,clock,rfl,hh,hb,hl,h⟩⟩
 ·exact⟨[],hv, .inl ⟨hx.inv_v,rfl⟩⟩
 ·rename_i id x
  split at hv
  ·rename_i x' es hH
   obtain⟨rfl,hk⟩:=hv
   obtain⟨b,ents,clock,rfl,h1,h2,h3⟩:=hsat _ _ (hle _ _ hH)
   cases hx
   exact⟨es,hk, .inr ⟨b,ents,clock,rfl,h1,h2,h3⟩⟩
  ·exact hv.elim
 ·exact hv.elim
theorem Iq{ents:Array MapEntry}{es:List D}(h:ER (R tp I w) ents es){j:Nat}{e:MapEntry}(he:ents[j]? =some e):∃c,es[j]? =some c/\R tp I w (.tuple #[e.key,e.val]) c:=by
 have hj:j < es.length:=by rw[<-h.1];exact(qtO.1 he).1
 exact⟨es[j],qtH hj,h.2 j e _ he (qtH hj)⟩
theorem TO{ents:Array MapEntry}{es:List D}{ka:Bool}{ks:List KK}(h:ER (R tp I w) ents es)(hf:es.all (Pq ka ks)=true):∀e∈ents.toList,Nx w ka ks e.key:=by
 intro e he
 obtain⟨j,hj⟩:=qt8.1 he
 have hj':ents[j]? =some e:=by simpa using hj
 obtain⟨c,hc,hR⟩:=Iq h hj'
 obtain⟨k,v,rfl,hk⟩:=Ih (qtL.1 hf c (qtJ hc))
 exact R1 hk hR.ent.1
theorem UF{t:TypeId}{z:List Value}{agg:Bool}(hz:eh P t=some z)(hag:F6 P t agg=true):∃zv,(zeroValue t).run P w= .ok zv w/\R tp I w zv (NE agg z):=by
 obtain⟨i,zv,hi,hzv,hzc,hsz,hz1,hz2⟩:=dr hz
 refine⟨zv,by simp[zeroValue,typeInfo,hi,hzv],?_⟩
 have hcs:=ji (tp:=tp) (I:=I) (w:=w) hz2 hz1
 simp only[F6,hi,qtY,hzv]at hag
 split at hag
 ·rename_i cs hcs'
  cases hcs'
  subst hag
  simp only[NE,if_true]
  rw[<-hzc]
  have:(Value.agg cs)= .agg cs.toList.toArray:=by simp
  rw[this]
  have hce:(Value.agg cs).cells.toList=cs.toList:=rfl
  rw[<-this,hce]
  rw[hce]at hzc
  rw[<-hzc]at hcs hz1
  have h2:=R.agg (tp:=tp) (I:=I) (w:=w) cs.toList (cs.toList.map uf) (by simp) (fun x hx=>qtL.1 hz1 x hx) (fun k x c h1 h2=>(hcs k x c h1 h2).2)
  simpa using h2
 ·rename_i x hne hx
  cases hx
  simp only[qtN,qvl]at hag
  obtain⟨rfl,h1⟩:=hag
  have hc1:zv.cells= #[zv]:=by cases zv <;> first|rfl|(simp[Value.oneCell']at h1)
  rw[hc1]at hzc
  subst hzc
  have:=hcs 0 zv (uf zv) rfl rfl
  simpa [NE]using this.2
 ·cases hag
theorem Wh{t kt et:TypeId}{x k:Operand}{ok agg ka:Bool}{ks:List KK}{z:List Value}{K:D->Prop}(ho:o.op= .lookup t x k ok)(ht:P.underlying t=some (.map kt et))(hkt:KeyT P kt ka ks)(hz:eh P et=some z)(hag:F6 P et agg=true)
 (hx:R tp I w (a.eval x) (ev σ x)) (hk:R tp I w (a.eval k) (ev σ k)) {Hr:ab} (hle:∀i r,Hr i=some r->H i=some r) (hsat:∀i r,H i=some r->ResOk (R tp I w) w r)
 (hv:ak (.m (.look ok agg ka ks z) [x,k]) σ Hr K):Good P o a tp I w K:=by
 simp only[ak,ta,qt7,quU]at hv
 obtain⟨es,⟨hall,hfk,hfound,hno⟩,hm⟩:=Tq hx hle hsat hv
 have hkv:=R1 hfk hk
 obtain⟨zv,hz1,hz2⟩:=UF (P:=P) (w:=w) (tp:=tp) (I:=I) hz hag
 have hck:∀em,(Instr.checkKey em 10000 kt (a.eval k)).run P w= .ok () w:=fun em=>by
  obtain⟨xs,h1,h2⟩:=hkv
  rw[h1]
  exact qnx em 50 kt ks ka hkt.c hkt.a 9950 xs h2
 have main:∀ (ents:Array MapEntry),(∀e∈ents.toList,Nx w ka ks e.key)->(∀ (j:Nat) (e:MapEntry),ents[j]? =some e->∃c,es[j]? =some c/\R tp I w (.tuple #[e.key,e.val]) c)->
  (∀c∈es,∃e∈ents.toList,R tp I w (.tuple #[e.key,e.val]) c)->
  (∀r:Option (Nat×Value),(Instr.findKey kt (a.eval k) ents.toList).run P w= .ok r w->(execOp a.eval o).run P w= .ok (.value (match r with|some (_,v)=>if ok then .tuple #[v, .bool true]else v|none=>if ok then .tuple #[zv, .bool false]else zv)) w)->Good P o a tp I w K:=by
  intro ents h1 h2 h3 hrun
  obtain⟨r,hr,hcase⟩:=TK (P:=P) hkt hkv ents.toList h1
  have hex:=hrun r hr
  rcases hcase with⟨rfl,hne⟩|⟨j,e,rfl,hj,hke⟩
  ·refine⟨_,qeu ok (NE agg z) false,hex,?_,hno fun hp v hmem=>?_⟩
   ·cases ok with
    | true=>exact R.mk_ent hz2 (.bool _)
    | false=>exact hz2
   ·obtain⟨e,he,hR⟩:=h3 _ hmem
    exact hne e he (Ti hp hR.ent.1 hk)
  ·obtain⟨c,hc,hR⟩:=h2 j e (by simpa using hj)
   obtain⟨k',v',rfl,_⟩:=Ih (qtL.1 hall c (qtJ hc))
   refine⟨_,qeu ok v' true,hex,?_,hfound k' v' (qtJ hc) ⟨tp,I,w,a.eval k,hk,by rw[<-hke];exact hR.ent.1⟩⟩
   cases ok with
   | true=>exact R.mk_ent hR.ent.2 (.bool _)
   | false=>exact hR.ent.2
 rcases hm with⟨hq,rfl⟩|⟨b,ents,clock,hq,hb,hbo,hents⟩
 ·refine main #[] (fun e he=>by simp at he) (fun j e he=>by simp at he) (fun c hc=>by simp at hc) fun r hr=>?_
  have hr':(Instr.findKey kt (a.eval k) []).run P w= .ok r w:=hr
  simp only[execOp,ho,hq,Instr.lookup,qt2,run_underlying ht,qtS,que,hck,hr']
  rcases r with _|⟨i,v⟩ <;> cases ok <;> simp[hz1]
 ·refine main ents (TO hents hall) (fun j e he=>Iq hents he) (fun c hc=>?_) fun r hr=>?_
  ·obtain⟨j,hj⟩:=qt8.1 hc
   have hlt:j < ents.size:=by rw[hents.1];exact(qtG.1 hj).1
   exact⟨ents[j],by simp,hents.2 j _ c (by simp[hlt]) hj⟩
  ·simp only[execOp,ho,hq,Instr.lookup,qt2,run_underlying ht,qtS,que,hck,hr,getObj,Sem.run,hb]
   rcases r with _|⟨i,v⟩ <;> cases ok <;> simp[hz1]
theorem Wf{t kt et:TypeId}{c:Call}{x:Operand}{K:D->Prop}(ho:o.op= .call c)(hc:c.callee= .builtin .len)(hat:c.argTypes.toList=[t])(hargs:c.args.toList=[x])(ht:P.underlying t=some (.map kt et))
 (hx:R tp I w (a.eval x) (ev σ x)) {Hr:ab} (hle:∀i r,Hr i=some r->H i=some r) (hsat:∀i r,H i=some r->ResOk (R tp I w) w r)
 (hv:ak (.m .len [x]) σ Hr K):Good P o a tp I w K:=by
 obtain⟨cl,⟨args⟩,⟨ats⟩⟩:=c
 simp only at hat hargs hc
 subst hat;subst hargs;subst hc
 simp only[ak,ta,qt7,quU]at hv
 obtain⟨es,hk,hm⟩:=Tq hx hle hsat hv
 rcases hm with⟨hq,rfl⟩|⟨b,ents,clock,hq,hb,hbo,hents⟩
 ·exact⟨_,_,by simp[execOp,ho,resolve,invoke,builtin,hq,Builtin.len_,run_underlying ht,goInt], .int _ _,hk⟩
 ·refine⟨.int .i64 es.length,_,?_, .int _ _,hk⟩
  rw[<-hents.1]
  simp[execOp,ho,resolve,invoke,builtin,hq,Builtin.len_,run_underlying ht,goInt,getObj,Sem.run,hb]
theorem Tp{m:Option Nat}{since last:Nat}{seen:Array Nat}{cur ds:List D}(h:R tp I w (JQ m since seen last) (.mst cur ds)):
 (m=none/\cur=[]/\ds=[])\/ ∃b es clock ce,m=some b/\I b/\w.heap[b]? =some (.map es clock)/\sJ es clock/\(∀e∈es.toList,e.born < since)/\since<=last/\since<=clock/\(lF es seen).length=ds.length/\
   (cur=[]\/(cur.length=1/\seen.back? =some ce.born/\ce∈es.toList/\last=clock))/\(∀c,cur=[c]->R tp I w (.tuple #[ce.key,ce.val]) c)/\∀ (k:Nat) (e:MapEntry) (c:D),(lF es seen)[k]? =some e->ds[k]? =some c->R tp I w (.tuple #[e.key,e.val]) c:=by
 generalize hq:JQ m since seen last=q at h
 have seenEq:∀s s':Array Nat,(s.map fun(n:Nat)=>Value.int .i64 n)=(s'.map fun(n:Nat)=>Value.int .i64 n)->s=s':=fun s s' h=>by
  have:=congrArg Array.toList h
  rw[qvr,qvr]at this
  have h2:=List.map_inj_right (f:=fun(n:Nat)=>Value.int .i64 n) (fun x y hxy=>by injection hxy with _ h;exact Int.ofNat.inj h) |>.1 this
  exact qvf.1 h2
 cases h with
 | nomst s l sn=>
   simp only[JQ,qwo]at hq
   have:=congrArg Array.toList hq
   simp only[qt5,Value.map.injEq]at this
   exact .inl ⟨this.1,rfl,rfl⟩
 | mst b es clock s l sn ce _ _ hI hh hb hs hsl hl hc hcr h=>
   simp only[JQ,qwo]at hq
   have:=congrArg Array.toList hq
   simp only[qt5,Value.map.injEq,qvL,Value.agg.injEq,true_and,and_true,Int.ofNat_inj]at this
   obtain⟨rfl,h1,h2,h3⟩:=this
   have h1':since=s:=by simpa using h1
   have h3':last=l:=by simpa using h3
   have h2':=seenEq _ _ h2
   subst h1';subst h3';subst h2'
   exact .inr ⟨b,es,clock,ce,rfl,hI,hh,hb,hs,hsl.1,hsl.2,hl,hc,hcr,h⟩
theorem RS{x:Operand}{K:D->Prop}(ho:o.op= .entry x)(hx:R tp I w (a.eval x) (ev σ x)){Hr:ab}(hle:∀i r,Hr i=some r->H i=some r)(hsat:∀i r,H i=some r->ResOk (R tp I w) w r)
 (hv:ak (.m .entry [x]) σ Hr K):Good P o a tp I w K:=by
 simp only[ak,ta,qt7,quU]at hv
 generalize hq:a.eval x=q at hx
 split at hv <;> try (exact hv.elim)
 ·rename_i h1 h2;cases h1
 ·rename_i h1 h2;cases h1
 ·rename_i ds id b off _ hds
  simp only[qt5,and_true]at hds
  rw[hds]at hx
  obtain⟨rfl,hv⟩:=hv
  split at hv
  ·rename_i b' e left hH
   obtain⟨rfl,hk⟩:=hv
   cases hx
   obtain⟨m,since,last,seen,g1,g2⟩:=hsat _ _ (hle _ _ hH)
   rcases Tp g2 with⟨_,h,_⟩|⟨bm,es,clock,ce,rfl,hI,hb,hbo,hs,hsl,hsc,hl,hc,hcr,hle2⟩
   ·cases h
   ·rcases hc with h|⟨_,hbk,hce,rfl⟩
    ·cases h
    ·have hf:es.find? (·.born==ce.born)=some ce:=by rw[<-Array.find?_toList];exact find_born ce es.toList hbo.2 hce
     refine⟨.tuple #[ce.key,ce.val],e,?_,hcr e rfl,hk⟩
     simp[execOp,ho,hq,Instr.entry,getObj,Sem.run,g1,hb,hbk,hf]
  ·exact hv.elim
 ·rename_i h1 h2;cases h1
theorem Wn{t el:TypeId}{len sz:Nat}{x i:Operand}{K:D->Prop}(ho:o.op= .indexAddr t x i)(ht:P.underlying t=some (.array len el))(hs:cA P el=some sz)
 (hx:R tp I w (a.eval x) (ev σ x)) (hi:R tp I w (a.eval i) (ev σ i)) {Hr:ab} (hv:ak (.m (.aidx len sz) [x,i]) σ Hr K):Good P o a tp I w K:=by
 simp only[ak,qt7,quU]at hv
 generalize hid:ev σ i=id at hi hv
 have main:∀ (kk:IntKind) (k:Int),a.eval i= .int kk k->0<=k->k < len->Il (k.toNat*sz) (ev σ x) K->Good P o a tp I w K:=by
  intro kk k hk h0 h1 hm
  refine rK (d:=k.toNat*sz) (x:=x) (fun b off hb=>?_) hx (H:=fun _=>none) hm
  simp[execOp,ho,hk,hb,Instr.indexAt,asIntOf,run_underlying ht,Instr.sureAddr,h0,h1,aN hs,jg]
 unfold ta at hv
 split at hv <;> try (exact hv.elim)
 all_goals first
  | (rename_i h _;cases h;done)
  | skip
 rename_i heq1 heq2
 cases heq1
 simp only[qt5,and_true]at heq2
 obtain⟨rfl,rfl⟩:=heq2
 exact main _ _ hi.inv_v hv.1 hv.2.1 hv.2.2
theorem Ek{w:World}{b:Nat}{o0:Obj}(o:Obj)(hb:w.heap[b]? =some o0):(setBlock w b o).heap[b]? =some o:=by
 have hlt:=(qtO.1 hb).1
 simp[setBlock,hlt]
theorem MM{w:World}{b c:Nat}(o:Obj)(h:c≠b):(setBlock w b o).heap[c]? =w.heap[c]?:=by
 have h':b≠c:=fun e=>h e.symm
 simp[setBlock,qu1,h']
theorem Id(w:World)(b:Nat)(o:Obj):GrB w (setBlock w b o) (some b):=
 ⟨⟨rfl,rfl,rfl,by simp[setBlock],fun k _ hk=>MM o (fun e=>hk (by rw[e]))⟩,qtP _⟩
theorem qjh{t ty:Nat}{K:D->ab->Prop}(hst:StW E tp H w)(ho:o.op= .makeMap ty none)(hv:∀x,K (.own t x) (ah H t (some (.mrow x [])))):dm P o a E tp H w K:=by
 refine⟨_, .map (some w.heap.size), .own t (.map (some w.heap.size)),_,w.alloc (.map #[] 0),?_, .inl rfl,qF (r':= .mrow (.map (some w.heap.size)) []) hst (fun b hb=>by cases hb;rfl) (fun m=>?_), .own _ _ rfl,hv _⟩
 ·simp only[execOp,ho,quW,qt2]
  rfl
 ·exact⟨w.heap.size, #[],0,rfl,heap_alloc_new _ _,⟨fun e he=>by simp at he,by simp⟩,rfl,fun k e c he=>by simp at he⟩
theorem Qh{es:Array MapEntry}{clock i:Nat}{k v:Value}(h:sJ es clock):sJ (es.modify i fun e=>{ e with key:=k,val:=v }) clock:=by
 have hm:((es.modify i fun e=>{ e with key:=k,val:=v }).toList.map (·.born))=es.toList.map (·.born):=by
  refine quC fun j=>?_
  rw[qtX,qtX,qt9,qt9,qvo]
  by_cases hij:i=j
  ·subst hij
   simp only[if_true,Option.map_map]
   cases es[i]? <;> rfl
  ·rw[if_neg hij]
 refine⟨fun e he=>?_,by rw[hm];exact h.2⟩
 have:e.born∈ (es.modify i fun e=>{ e with key:=k,val:=v }).toList.map (·.born):=qtU.2 ⟨e,he,rfl⟩
 rw[hm]at this
 obtain⟨e',he',hb⟩:=qtU.1 this
 rw[<-hb];exact h.1 e' he'
theorem WG{es:Array MapEntry}{clock:Nat}{k v:Value}(h:sJ es clock):sJ (es.push { key:=k,val:=v,born:=clock }) (clock+1):=by
 refine⟨fun e he=>?_,?_⟩
 ·rw[qwp,qtK,qvi]at he
  rcases he with he|rfl
  ·exact Nat.lt_succ_of_lt (h.1 e he)
  ·exact Nat.lt_succ_self _
 ·rw[qwp,qu9,quY]
  refine⟨h.2,by simp,fun x hx y hy=>?_⟩
  obtain⟨e,he,rfl⟩:=qtU.1 hx
  simp at hy
  subst hy
  have:=h.1 e he
  omega
theorem YO{ty kt et:TypeId}{x k v:Operand}{ka:Bool}{ks:List KK}{K:D->ab->Prop}(hst:StW E tp H w)(ho:o.op= .mapUpdate ty x k v\/o.op= .insert ty x k v)(ht:P.underlying ty=some (.map kt et))(hkt:KeyT P kt ka ks)
 (hx:R tp (aM E.O tp H w) w (a.eval x) (ev σ x)) (hk:R tp (aM E.O tp H w) w (a.eval k) (ev σ k)) (hvv:R tp (aM E.O tp H w) w (a.eval v) (ev σ v))
 (hv:bi (.m (.upd ka ks) [x,k,v]) o.dst σ H K):dm P o a E tp H w K:=by
 simp only[bi,qt7,quU]at hv
 generalize hq:a.eval x=q at hx
 generalize hxd:ev σ x=xd at hx hv
 cases xd <;> try (exact hv.elim)
 ·rename_i id xv
  cases hx
  simp only[ib]at hv
  split at hv
  ·rename_i x' es hH
   obtain⟨rfl,hall,hfk,hup,hno⟩:=hv
   have hsat:∀i r,H i=some r->ResOk (R tp (aM E.O tp H w) w) w r:=hst.sat.ok
   obtain⟨b,ents,clock,rfl,hb,hbo,hents⟩:=hsat _ _ hH
   have hkv:=R1 hfk hk
   have hck:(Instr.checkKey false 10000 kt (a.eval k)).run P w= .ok () w:=by
    obtain⟨xs,h1,h2⟩:=hkv
    rw[h1]
    exact qnx false 50 kt ks ka hkt.c hkt.a 9950 xs h2
   obtain⟨r,hr,hcase⟩:=TK (P:=P) hkt hkv ents.toList (TO hents hall)
   have hset:∀ob:Obj,(setObj b ob).run P w= .ok () (setBlock w b ob):=fun ob=>by simp[setObj,Sem.run,hb,setBlock]
   have fin:∀ (ents':Array MapEntry) (clock':Nat) (es':List D),(Instr.mapUpdate ty (.map (some b)) (a.eval k) (a.eval v)).run P w= .ok () (setBlock w b (.map ents' clock'))->sJ ents' clock'->
    (∀ (Q:Value->D->Prop),(∀y d,R tp (aM E.O tp H w) w y d->Q y d)->(∀ (k' v':Value) (c d:D),Q k' c->Q v' d->Q (.tuple #[k',v']) (.tup [c,d]))->ER Q ents' es')->K .undef (ah H id (some (.mrow (.map (some b)) es')))->dm P o a E tp H w K:=by
    intro ents' clock' es' hrun hbo' hents' hK
    have hm:=hst.own id (some (.mrow (.map (some b)) es')) (Id w b (.map ents' clock')) (fun c hc=>by cases hc;exact⟨_,hH,rfl⟩) (fun r c h1 h2=>by cases h1;cases h2;exact .inr ⟨_,hH,rfl⟩) (fun m r h1=>by
     cases h1
     exact⟨b,ents',clock',rfl,Ek _ hb,hbo',hents' _ m fun k' v' c d h1 h2=>R.mk_ent h1 h2⟩)
    refine⟨.skip,Go.undef, .undef,_,_,?_, .inr ⟨rfl,rfl⟩,hm, .undef,hK⟩
    rcases ho with ho|ho <;> simp[execOp,ho,hq,hrun]
   rcases hcase with⟨rfl,hne⟩|⟨j,e,rfl,hj,hke⟩
   ·refine fin (ents.push { key:=a.eval k,val:=a.eval v,born:=clock }) (clock+1) (es++ [.tup [ev σ k,ev σ v]]) ?_ (WG hbo) (fun Q hQ hT=>⟨by simp[hents.1],fun i e c he hc=>?_⟩) (hno fun hp v' hmem=>?_)
    ·simp[Instr.mapUpdate,run_underlying ht,getObj,Sem.run,hb,hck,hr,hset]
    ·rw[Array.getElem?_push]at he
     split at he
     ·rename_i hi
      cases he
      rw[qtQ (by rw[<-hents.1];omega)]at hc
      rw[<-hents.1,hi]at hc
      simp at hc
      subst hc
      exact hT _ _ _ _ (hQ _ _ hk) (hQ _ _ hvv)
     ·have hlt:=(qtO.1 he).1
      rw[qt0 (by rw[<-hents.1];exact hlt)]at hc
      exact hQ _ _ (hents.2 i e c he hc)
    ·obtain⟨i,hi⟩:=qt8.1 hmem
     have hlt:i < ents.size:=by rw[hents.1];exact(qtG.1 hi).1
     have hR:=hents.2 i ents[i] _ (by simp[hlt]) hi
     exact hne ents[i] (by simp) (Ti hp hR.ent.1 hk)
   ·have hj':ents[j]? =some e:=by simpa using hj
    obtain⟨c,hc,hR⟩:=Iq hents hj'
    obtain⟨k',v',rfl,_⟩:=Ih (qtL.1 hall c (qtJ hc))
    have hjl:j < es.length:=(qtG.1 hc).1
    have hsplit:es=es.take j++D.tup [k',v']::es.drop (j+1):=by
     have h1:=(qtG.1 hc).2
     rw[<-h1,<-quh hjl,qus]
    have hset2:es.take j++D.tup [ev σ k,ev σ v]::es.drop (j+1)=es.set j (.tup [ev σ k,ev σ v]):=by
     rw[qvG,if_pos hjl]
    have hK:=hup _ k' v' _ hsplit ⟨tp,aM E.O tp H w,w,a.eval k,hk,by rw[<-hke];exact hR.ent.1⟩
    rw[hset2]at hK
    refine fin (ents.modify j fun e=>{ e with key:=a.eval k,val:=a.eval v }) clock (es.set j (.tup [ev σ k,ev σ v])) ?_ (Qh hbo) (fun Q hQ hT=>⟨by simp[hents.1],fun i e2 c2 he hc2=>?_⟩) hK
    ·have hst2:(Instr.keyThatStays e.key (a.eval k)).run P w= .ok (a.eval k) w:=by rw[hke];exact XC hkt.one hkv
     simp[Instr.mapUpdate,run_underlying ht,getObj,Sem.run,hb,hck,hr,hset,hj',hst2]
    ·rw[qvo]at he
     by_cases hij:j=i
     ·subst hij
      rw[if_pos rfl,hj']at he
      cases he
      rw[quO hjl]at hc2
      cases hc2
      exact hT _ _ _ _ (hQ _ _ hk) (hQ _ _ hvv)
     ·rw[if_neg hij]at he
      rw[qvM hij]at hc2
      exact hQ _ _ (hents.2 i e2 c2 he hc2)
  ·exact hv.elim
theorem qcF{b:Nat}{ents:Array MapEntry}{clock:Nat}{es:List D}(hI:I b)(hb:w.heap[b]? =some (.map ents clock))(hbo:sJ ents clock)(hents:ER (R tp I w) ents es):R tp I w (JQ (some b) clock #[] clock) (.mst [] es):=by
 have hl:lF ents #[]=ents.toList:=by simp[lF]
 refine .mst b ents clock clock clock #[] default [] es hI hb hbo hbo.1 ⟨qtP _,qtP _⟩ (by rw[hl,qt6];exact hents.1) (.inl rfl) (fun c h=>by cases h) (fun k e c he hc=>?_)
 rw[hl,qt9]at he
 exact hents.2 k e c he hc
theorem qf2{t ty kt et:TypeId}{x:Operand}{K:D->ab->Prop}(hst:StW E tp H w)(ho:o.op= .range ty x)(ht:P.underlying ty=some (.map kt et))(hx:R tp (aM E.O tp H w) w (a.eval x) (ev σ x))(hd:o.dst=some t)
 (hv:bi (.m .rng [x]) o.dst σ H K):dm P o a E tp H w K:=by
 simp only[bi,ib,qt7,quU,hd]at hv
 generalize hq:a.eval x=q at hx
 have fin:∀ (m:Option Nat) (clock:Nat) (es:List D),(Instr.range ty q).run P w= .ok (.pointer (some ⟨w.heap.size,0,none⟩)) (w.alloc (.mapIter m clock #[] clock))->(∀ (I':Nat->Prop) (w':World),(∀y d,R tp (aM E.O tp H w) w y d->R tp I' w' y d)->R tp I' w' (JQ m clock #[] clock) (.mst [] es))->
  (∀b,K (.bptr t b 0) (ah H t (some (.miter b [] es))))->dm P o a E tp H w K:=by
  intro m clock es hrun hR hK
  refine⟨_, .pointer (some ⟨w.heap.size,0,none⟩), .bptr t w.heap.size 0,_,w.alloc (.mapIter m clock #[] clock),?_, .inl rfl,qF (r':= .miter w.heap.size [] es) hst (fun b hb=>by cases hb;rfl) (fun mv=>⟨m,clock,clock, #[],heap_alloc_new _ _,hR _ _ mv⟩), .bptr _ _ _,hK _⟩
  simp only[execOp,ho,hq,qt2,hrun,qtS,que]
 split at hv
 ·rename_i es e1
  rw[e1]at hx
  cases hx with
  | nomp=>exact fin none 0 [] (by simp[run_range_nilMap w ty kt et ht]) (fun I' w' _=> .nomst _ _ _) hv
  | mp b ents clock _ hI hh hl hb h=>
    exact fin (some b) clock es (by simp[run_range_map w ty kt et b ents clock ht hh]) (fun I' w' mv=>mv _ _ (qcF hI hh hb ⟨hl,h⟩)) hv
 ·rename_i e1
  rw[e1]at hx
  have:=hx.inv_v
  subst this
  exact fin none 0 [] (by simp[run_range_nilMap w ty kt et ht]) (fun I' w' _=> .nomst _ _ _) hv
 ·exact hv.elim
theorem Of{α:Type}{l:List α}{j:Nat}{x:α}(h:l[j]? =some x):l=l.take j++x::l.drop (j+1):=by
 have hj:=(qtG.1 h).1
 have h1:=(qtG.1 h).2
 rw[<-h1,<-quh hj,qus]
theorem VA{α β:Type}{f:α->β}{l1 l2:List α}{x:α}(h:((l1++x::l2).map f).Nodup):∀y∈l1++l2,f y≠f x:=by
 rw[qu9,qt7,quY]at h
 obtain⟨_,h2,h3⟩:=h
 intro y hy e
 rcases qtK.1 hy with hy|hy
 ·exact h3 (f y) (qtU.2 ⟨y,hy,rfl⟩) (f x) (by simp) e
 ·exact(qvx.1 h2).1 (qtU.2 ⟨y,hy,e⟩)
theorem VU{es:Array MapEntry}{seen:Array Nat}{l1 l2:List MapEntry}{e:MapEntry}(hn:(es.toList.map (·.born)).Nodup)(h:lF es seen=l1++e::l2):lF es (seen.push e.born)=l1++l2:=by
 have hnl:((lF es seen).map (·.born)).Nodup:=by
  refine List.Nodup.sublist (List.Sublist.map _ qwa) hn
 rw[h]at hnl
 have hne:=VA hnl
 have h2:lF es (seen.push e.born)=(lF es seen).filter fun y=>!(y.born==e.born):=by
  simp only[lF,List.filter_filter]
  refine List.filter_congr fun y _=>?_
  rw[Array.contains_push]
  cases seen.contains y.born <;> cases hh:(y.born==e.born) <;> simp
 rw[h2,h,qvA,quV]
 have he:(!(e.born==e.born))=false:=by simp
 rw[he]
 simp only[qul,if_false]
 rw[<-qvA]
 exact qwb.2 fun y hy=>by simpa using hne y hy
theorem qcp{x:Operand}{K:D->ab->Prop}(hst:StW E tp H w)(ho:o.op= .next x false)(hx:R tp (aM E.O tp H w) w (a.eval x) (ev σ x))(hv:bi (.m .next [x]) o.dst σ H K):dm P o a E tp H w K:=by
 simp only[bi,qt7,quU]at hv
 generalize hq:a.eval x=q at hx
 generalize hxd:ev σ x=xd at hx hv
 cases xd <;> try (exact hv.elim)
 rename_i id b off
 simp only[ib]at hv
 obtain⟨rfl,hv⟩:=hv
 cases hx
 split at hv
 ·rename_i b' cur left hH
  obtain⟨rfl,h1,h2⟩:=hv
  obtain⟨m,since,last,seen,g1,g2⟩:=hst.sat.ok id _ hH
  have over:(Instr.next (.pointer (some ⟨b',0,none⟩)) false o.type).run P w= .ok (.tuple #[.bool false]) w->left=[]->dm P o a E tp H w K:=fun hrun hl=>
   ⟨_,_,_,_,w,by simp only[execOp,ho,hq,qt2,hrun,qtS,que], .inl rfl,⟨hst,fun y e h=>h⟩, .tup [.bool false] [.v (.bool false)] rfl (fun k y c h1 h2=>by
    match k with
    | 0=>simp at h1 h2;subst h1;subst h2;exact .bool _
    | k+1=>simp at h1),h1 hl⟩
  rcases Tp g2 with⟨rfl,_,hl⟩|⟨bm,es,clock,ce,rfl,hI,hb,hbo,hs,hsl,hsc,hl,hc,hcr,hle2⟩
  ·exact over (by simp[Instr.next,getObj,Sem.run,g1]) hl
  ·rcases run_next_at (P:=P) w o.type b' bm since last seen es clock g1 hb hs hsl with⟨h0,hrun⟩|⟨e,he,w1,hw1,hrun⟩
   ·have:(lF es seen).length=0:=by
     have h3:(leftOf es seen).toList=lF es seen:=by simp[leftOf,lF]
     rw[<-h3,qt6];exact h0
    exact over hrun (qur.1 (by omega))
   ·have h3:(leftOf es seen).toList=lF es seen:=by simp[leftOf,lF]
    rw[h3]at he
    obtain⟨j,hj⟩:=qt8.1 he
    have hjl:j < left.length:=by rw[<-hl];exact(qtG.1 hj).1
    have hd:left[j]? =some left[j]:=qtH hjl
    have hR:=hle2 j e _ hj hd
    have hsp:=Of hj
    have hds:=Of hd
    have hpush:=VU hbo.2 hsp
    have hgr:GrB w (setBlock w1 b' (.mapIter (some bm) since (seen.push e.born) clock)) (some b'):=by
     rcases hw1 with rfl|rfl
     ·exact Id _ _ _
     ·have:=Id w.drew b' (.mapIter (some bm) since (seen.push e.born) clock)
      exact⟨⟨rfl,rfl,rfl,this.size,this.block⟩,qvd _⟩
    have hb1:(setBlock w1 b' (.mapIter (some bm) since (seen.push e.born) clock)).heap[b']? =some (.mapIter (some bm) since (seen.push e.born) clock):=by
     rcases hw1 with rfl|rfl
     ·exact Ek _ g1
     ·exact Ek (w:=w.drew) _ g1
    have hlen:(left.take j++left.drop (j+1)).length=((lF es seen).take j++ (lF es seen).drop (j+1)).length:=by
     simp only[qt4,qug,quF,hl]
    have hgood:R tp (aM E.O tp H w) w (JQ (some bm) since (seen.push e.born) clock) (.mst [left[j]] (left.take j++left.drop (j+1))):=by
     refine .mst bm es clock since clock (seen.push e.born) e _ _ hI hb hbo hs ⟨hsc,hsc⟩ (by rw[hpush,hlen]) (.inr ⟨rfl,by simp,?_,rfl⟩) (fun c hc=>by cases hc;exact hR) (fun k y c hy hc=>?_)
     ·have:=qtJ hj
      exact(qva.1 this).1
     ·rw[hpush]at hy
      by_cases hk:k < j
      ·rw[qt0 (by rw[qug];have:=(qtG.1 hj).1;omega),qtZ,if_pos hk]at hy
       rw[qt0 (by rw[qug];omega),qtZ,if_pos hk]at hc
       exact hle2 k y c hy hc
      ·have hjl2:=(qtG.1 hj).1
       have e1:((lF es seen).take j).length=j:=by rw[qug];omega
       have e2:(left.take j).length=j:=by rw[qug];omega
       rw[qtQ (by rw[e1];omega),quk,e1]at hy
       rw[qtQ (by rw[e2];omega),quk,e2]at hc
       exact hle2 _ y c hy hc
    have hm:=hst.own id (some (.miter b' [left[j]] (left.take j++left.drop (j+1)))) hgr (fun c hc=>by cases hc;exact⟨_,hH,rfl⟩) (fun r c h1 h2=>by cases h1;cases h2;exact .inr ⟨_,hH,rfl⟩) (fun m r h1=>by
     cases h1
     exact⟨some bm,since,clock,seen.push e.born,hb1,m _ _ hgood⟩)
    refine⟨_,_, .tup [.v (.bool true), .any, .any],_,_,by simp only[execOp,ho,hq,qt2,hrun,qtS,que], .inl rfl,hm, .tup [.bool true,e.key,e.val] _ rfl (fun k y c h1 h2=>by
     match k with
     | 0=>simp at h1 h2;subst h1;subst h2;exact .bool _
     | 1=>simp at h1 h2;subst h1;subst h2;exact .any _
     | 2=>simp at h1 h2;subst h1;subst h2;exact .any _
     | k+3=>simp at h1),h2 _ _ _ hds⟩
 ·exact hv.elim
end
end Go.Gv
