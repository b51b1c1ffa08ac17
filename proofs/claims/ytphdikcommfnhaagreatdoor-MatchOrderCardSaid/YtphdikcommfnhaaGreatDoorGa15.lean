/- A part of the framework and of the walks: T6b T7. -/
import Derived.Test.YtphdikcommfnhaaGreatDoorGa14
set_option linter.unusedSimpArgs false
set_option linter.unusedVariables false

namespace Go.Gv
theorem Spc.mono (s:Spc):n7 s.pt:=by
 cases s with
 | none=> exact fun _ _ _ _ _ _ h=> h
 | pure c=> exact fun d ds H K K' hk h=> ⟨h.1,fun r hr=> hk r H (h.2 r hr)⟩
 | gen A h=> exact h
section
variable {S:Nat->Spc} {σ:Sg} {H:aa}
theorem B6 {c:COp} {K K':D->Prop} (hk: ∀d,K d->K' d) (h:am c σ H K):am c σ H K':=by
 obtain⟨pre,out,hf⟩:=KW c σ H
 have hf: ∀K,am c σ H K↔ (pre/\ ∀d,out d->K d):=hf
 rw[hf] at h ⊢
 exact⟨h.1,fun d hd=> hk d (h.2 d hd)⟩
theorem DS {n:Nat} {d:D} {K K':List D->Prop} (hk: ∀l,K l->K' l) (h:qv n d H K):qv n d H K':=by
 unfold qv at h ⊢
 split at h <;> (try simp only at h ⊢)
 ·exact⟨h.1,hk _ h.2⟩
 ·split at h
  ·exact⟨h.1,h.2.1,hk _ h.2.2⟩
  ·exact h.elim
 ·exact hk _ h
 ·split at h
  ·exact⟨h.1,h.2.1,h.2.2.1,hk _ h.2.2.2⟩
  ·exact h.elim
theorem PR {n:Nat} {d:D} {K K':List D->Prop} (hk: ∀l,K l->K' l) (h:rB n d H K):rB n d H K':=by
 unfold rB at h ⊢
 split at h
 ·exact⟨h.1,hk _ h.2⟩
 ·exact DS hk h
theorem Nw {o:MOp} {ds:List D} {dst:Option Nat} {K K':D->aa->Prop} (hk: ∀d H,K d H->K' d H) (h:ix o ds dst H K):ix o ds dst H K':=by
 have rd:qC o ds H (fun d=> K d H)->qC o ds H (fun d=> K' d H):=fun h=> by
  obtain⟨p,q,hq⟩:=OC o ds H
  exact(hq _).2 ⟨((hq _).1 h).1,fun d hd=> hk _ _ (((hq _).1 h).2 d hd)⟩
 unfold ix at h ⊢
 split at h
 ·split at h
  ·exact fun x=> hk _ _ (h x)
  ·exact h.elim
 ·split at h
  ·exact⟨h.1,h.2.1,h.2.2.1,fun l1 k' v' l2 e m=> hk _ _ (h.2.2.2.1 l1 k' v' l2 e m),fun e=> hk _ _ (h.2.2.2.2 e)⟩
  ·exact h.elim
 ·split at h
  ·split at h
   ·exact fun b=> hk _ _ (h b)
   ·exact fun b=> hk _ _ (h b)
   ·exact h.elim
  ·exact h.elim
 ·refine⟨h.1,?_⟩
  have h:=h.2
  split at h
  ·exact⟨h.1,fun e=> hk _ _ (h.2.1 e),fun l1 e l2 hl=> hk _ _ (h.2.2 l1 e l2 hl)⟩
  ·exact h.elim
 ·exact rd h
theorem Qa {c:COp} {dst:Option Nat} {K K':D->aa->Prop} (hk: ∀d H,K d H->K' d H) (h:bT c dst σ H K):bT c dst σ H K':=by
 by_cases hro:c.isRead=true
 ·have e: ∀K,bT c dst σ H K=am c σ H fun d=> K d H:=by
   intro K
   cases c <;> first | rfl | (simp[COp.isRead] at hro;done) | skip
   ·rename_i im x
    cases im <;> first | rfl | (simp[COp.isRead] at hro)
   ·rename_i mo xs
    cases mo <;> first | (simp[COp.isRead,MOp.isRead] at hro;done) | rfl
  rw[e] at h ⊢
  exact B6 (fun d hd=> hk d H hd) h
 ·cases c
  case alloc el z=>
   simp only[bT] at h ⊢
   split at h
   ·exact fun b=> hk _ _ (h b)
   ·exact h.elim
  case box el im x=>
   cases im with
   | true=> exact absurd rfl hro
   | false=>
     simp only[bT] at h ⊢
     split at h
     ·exact⟨h.1,fun b=> hk _ _ (h.2 b)⟩
     ·exact h.elim
  case tbx el x=>
   simp only[bT] at h ⊢
   split at h
   ·exact⟨h.1,fun b=> hk _ _ (h.2 b)⟩
   ·exact h.elim
  case nslice el n=>
   simp only[bT] at h ⊢
   split at h
   ·exact fun b=> hk _ _ (h b)
   ·exact h.elim
  case mslice el n ps=>
   simp only[bT] at h ⊢
   split at h
   ·exact⟨h.1,fun b=> hk _ _ (h.2 b)⟩
   ·exact h.elim
  case mkslice el n b agg z l c=>
   simp only[bT] at h ⊢
   split at h
   ·split at h
    ·exact⟨h.1,h.2.1,h.2.2.1,h.2.2.2.1,fun x=> hk _ _ (h.2.2.2.2 x)⟩
    ·exact h.elim
   ·exact h.elim
  case store rt sz x y=>
   simp only[bT] at h ⊢
   refine⟨h.1,h.2.1,?_⟩
   have h2:=h.2.2
   clear h
   split at h2
   ·split at h2
    ·exact⟨h2.1,h2.2.1,hk _ _ h2.2.2⟩
    ·exact h2.elim
   ·split at h2
    ·exact⟨h2.1,h2.2.1,h2.2.2.1,h2.2.2.2.1,h2.2.2.2.2.1,fun d hd=> hk _ _ (h2.2.2.2.2.2 d hd)⟩
    ·exact h2.elim
   ·exact h2.elim
  case srange x=>
   simp only[bT] at h ⊢
   split at h
   ·exact fun b=> hk _ _ (h b)
   ·exact h.elim
  case snext x=>
   simp only[bT] at h ⊢
   split at h
   ·obtain⟨rfl,h⟩:=h
    refine⟨rfl,?_⟩
    split at h
    ·exact⟨h.1,fun e=> hk _ _ (h.2.1 e),fun e=> hk _ _ (h.2.2 e)⟩
    ·exact h.elim
   ·exact h.elim
  case append rt el n b x y=>
   simp only[bT] at h ⊢
   refine PR (fun l h=> ?_) h
   split at h
   ·split at h
    ·exact⟨h.1,h.2.1,h.2.2.1,h.2.2.2.1,h.2.2.2.2.1,fun v=> hk _ _ (h.2.2.2.2.2 v)⟩
    ·exact h.elim
   ·split at h
    ·exact⟨h.1,h.2.1,fun v=> hk _ _ (h.2.2 v)⟩
    ·exact h.elim
   ·split at h
    ·exact⟨h.1,h.2.1,h.2.2.1,h.2.2.2.1,h.2.2.2.2.1,h.2.2.2.2.2.1,h.2.2.2.2.2.2.1,fun v=> hk _ _ (h.2.2.2.2.2.2.2 v)⟩
    ·exact h.elim
   ·exact h.elim
  case appmk el n b agg z x c=>
   simp only[bT] at h ⊢
   split at h
   ·split at h
    ·exact⟨h.1,h.2.1,h.2.2.1,fun v=> hk _ _ (h.2.2.2 v)⟩
    ·exact h.elim
   ·exact h.elim
  case clear n agg z x=>
   simp only[bT] at h ⊢
   split at h
   ·split at h
    ·exact⟨h.1,h.2.1,hk _ _ h.2.2⟩
    ·exact h.elim
   ·split at h
    ·exact⟨h.1,h.2.1,h.2.2.1,hk _ _ h.2.2.2⟩
    ·exact h.elim
   ·exact hk _ _ h
   ·exact h.elim
  case copy n x y=>
   simp only[bT] at h ⊢
   refine DS (fun l h=> ?_) h
   split at h
   ·split at h
    ·exact⟨h.1,h.2.1,hk _ _ h.2.2⟩
    ·exact h.elim
   ·split at h
    ·exact⟨h.1,h.2.1,h.2.2.1,hk _ _ h.2.2.2⟩
    ·exact h.elim
   ·exact h.elim
  case m mo xs=> exact Nw hk h
  case call f xs=> exact h.elim
  case callv f xs=> exact h.elim
  case callb r f xs=> exact h.elim
  all_goals exact absurd rfl hro
theorem LT {c:COp} {dst:Option Nat} {K K':D->aa->Prop} (hk: ∀d H,K d H->K' d H) (h:aM S c dst σ H K):aM S c dst σ H K':=by
 cases c
 case call f args=> exact(S f).mono _ _ _ _ _ hk h
 case callb r f args=> exact(S f).mono _ _ _ _ _ hk h
 case callv f args=>
  simp only[aM] at h ⊢
  split at h
  ·exact(S _).mono _ _ _ _ _ hk h
  ·exact h.elim
 all_goals
  simp only[aM] at h ⊢
  exact Qa hk h
theorem Bv: ∀ (cs:List D) (H:aa) {K K':List D->aa->Prop},(∀cs H,K cs H->K' cs H)->Bw cs H K->Bw cs H K'
 | [],H,K,K',hk,h=> hk _ _ h
 | c::cs,H,K,K',hk,h=> by
   have other:Bw cs H (fun cs' H'=> K (c::cs') H')->Bw cs H (fun cs' H'=> K' (c::cs') H'):=fun h=> Bv cs H (fun _ _ h=> hk _ _ h) h
   cases c
   case own id x=>
    simp only[Bw] at h ⊢
    split at h
    ·exact⟨h.1,Bv cs _ (fun _ _ h=> hk _ _ h) h.2⟩
    ·exact h.elim
   all_goals exact other h
theorem NI {t n:Nat} {K K':Sg->aa->Prop} (hk: ∀σ H,K σ H->K' σ H) (h:Ck t n σ H K):Ck t n σ H K':=by
 unfold Ck at h ⊢
 split at h <;> (try simp only at h ⊢)
 ·split at h
  ·exact⟨h.1,hk _ _ h.2⟩
  ·exact h.elim
 ·split at h
  ·exact⟨h.1,hk _ _ h.2⟩
  ·exact h.elim
 ·exact hk _ _ h
 ·split at h
  ·refine⟨h.1,h.2.1,?_⟩
   have h2:=h.2.2
   split at h2
   ·rename_i e
    rw[if_pos e]
    exact⟨h2.1,fun v=> hk _ _ (h2.2 v)⟩
   ·rename_i e
    rw[if_neg e]
    exact hk _ _ h2
  ·exact h.elim
 ·exact Bv _ _ (fun _ _ h=> hk _ _ h) h
 ·exact hk _ _ h
theorem zQ {g:Option (Nat×Bool)} {yes no yes' no':Sg->Prop} (h1: ∀σ,yes σ->yes' σ) (h2: ∀σ,no σ->no' σ) (h:nb g σ yes no):nb g σ yes' no':=by
 unfold nb at h ⊢
 split at h <;> (try simp only at h ⊢)
 ·exact h1 _ h
 ·split at h
  ·exact⟨fun e=> h1 _ (h.1 e),fun e=> h2 _ (h.2 e)⟩
  ·exact h2 _ h
  ·exact h.elim
theorem t8: ∀ (l:List CI) (σ:Sg) (H:aa) {K K':Sg->aa->Prop},(∀σ H,K σ H->K' σ H)->yq S l σ H K->yq S l σ H K'
 | [],σ,H,K,K',hk,h=> hk _ _ h
 | .frz t n::r,σ,H,K,K',hk,h=> NI (fun σ H h=> t8 r σ H hk h) h
 | .op dst g c::r,σ,H,K,K',hk,h=> zQ (fun σ h=> LT (fun d H h=> t8 r _ H hk h) h) (fun σ h=> t8 r _ H hk h) h
theorem No {c:COp} {dst:Option Nat} {Hr:aa} {K K':D->aa->Prop} (hk: ∀d H,K d H->K' d H) (h:aJ S c dst σ Hr H K):aJ S c dst σ Hr H K':=by
 obtain⟨pre,out,hf⟩:=EP S c dst σ Hr (nE H (c.wid dst))
 have hf: ∀H',nE H' (c.wid dst)=nE H (c.wid dst)-> ∀K,aJ S c dst σ Hr H' K↔ (pre/\ ∀d u,out d u->K d (gj H' (c.wid dst) u)):=hf
 rw[hf H rfl] at h ⊢
 exact⟨h.1,fun d u hd=> hk _ _ (h.2 d u hd)⟩
theorem sd: ∀ (l:List CI) (σ:Sg) (Hr H:aa) {K K':Sg->aa->Prop},(∀σ H,K σ H->K' σ H)->kU S l σ Hr H K->kU S l σ Hr H K'
 | [],σ,Hr,H,K,K',hk,h=> hk _ _ h
 | .frz t n::r,σ,Hr,H,K,K',hk,h=> sd r σ (bS r Hr) H hk h
 | .op dst g c::r,σ,Hr,H,K,K',hk,h=> zQ (fun σ h=> No (fun d H h=> sd r _ Hr H hk h) h) (fun σ h=> sd r _ Hr H hk h) h
theorem sa (c:CC): ∀ {K K':Ex->Sg->aa->Prop} (σ:Sg) (H:aa),(∀e σ H,K e σ H->K' e σ H)->vc S c K σ H->vc S c K' σ H:=by
 induction c with
 | skip=> intro K K' σ H hk h;simp only[vc] at h ⊢;exact hk _ _ _ h
 | reg l=> intro K K' σ H hk h;simp only[vc] at h ⊢;exact t8 l σ H (fun _ _ h=> hk _ _ _ h) h
 | regd p t=> intro K K' σ H hk h;simp only[vc] at h ⊢;exact sd p σ _ H (fun σ H h=> t8 t σ H (fun _ _ h=> hk _ _ _ h) h) h
 | seq a b iha ihb=>
   intro K K' σ H hk h
   simp only[vc] at h ⊢
   refine iha σ H (fun e σ H h=> ?_) h
   cases e with
   | norm=> exact ihb σ H hk h
   | ex i=> exact hk _ _ _ h
   | ret=> exact hk _ _ _ h
 | ite c a b iha ihb=>
   intro K K' σ H hk h
   simp only[vc] at h ⊢
   split at h
   ·exact⟨fun e=> iha σ H hk (h.1 e),fun e=> ihb σ H hk (h.2 e)⟩
   ·exact h.elim
 | block id b ih=>
   intro K K' σ H hk h
   simp only[vc] at h ⊢
   refine ih σ H (fun e σ H h=> ?_) h
   cases e with
   | norm=> exact hk _ _ _ h
   | ret=> exact hk _ _ _ h
   | ex i=>
     dsimp only at h ⊢
     split at h
     ·rename_i e;rw[if_pos e];exact hk _ _ _ h
     ·rename_i e;rw[if_neg e];exact hk _ _ _ h
 | loop k b ih=>
   intro K K' σ H hk h
   simp only[vc] at h ⊢
   obtain⟨inv,h0,h1⟩:=h
   refine⟨inv,h0,fun x hx=> ih _ _ (fun e σ H h=> ?_) (h1 x hx)⟩
   cases e with
   | norm=> exact h
   | ex i=> exact hk _ _ _ h
   | ret=> exact hk _ _ _ h
 | exit id=> intro K K' σ H hk h;simp only[vc] at h ⊢;exact hk _ _ _ h
 | ret=> intro K K' σ H hk h;simp only[vc] at h ⊢;exact hk _ _ _ h
 | cut k c ih=>
   intro K K' σ H hk h
   simp only[vc] at h ⊢
   obtain⟨σ',H',h0,h1⟩:=h
   exact⟨σ',H',h0,ih _ _ hk h1⟩
 | keep ls lh c ih=> intro K K' σ H hk h;simp only[vc] at h ⊢;exact ih _ _ hk h
end
end Go.Gv

namespace Go.Gv
inductive ar where
 | tmp (t:Nat)
 | cell (t:Nat) (agg:Bool) (sz:Nat)
def iQ (P:Program):ResultVar->Option ar
 | .tmp t=> some (.tmp t)
 | .cell t ty=> do
   let agg <-gi P ty
   let sz <-c7 P ty
   if agg || sz=1 then some (.cell t agg sz) else none
def ul:List ar->Sg->aa->(List D->Prop)->Prop
 | [],_,_,K=> K []
 | .tmp t::r,σ,H,K=> ul r σ H fun ds=> K (σ t::ds)
 | .cell t agg sz::r,σ,H,K=> am (.load agg sz (.tmp t)) σ H fun d=> ul r σ H fun ds=> K (d::ds)
def jN:List D->D
 | [d]=> d
 | ds=> .tup ds
def rF (rs:List ar) (K:D->aa->Prop):Ex->Sg->aa->Prop
 | .norm,σ,H=> ul rs σ H fun ds=> K (jN ds) H
 | .ret,σ,H=> ul rs σ H fun ds=> K (jN ds) H
 | .ex _,_,_=> False
def yO (tmps:Array Value):ResultVar->Sem Value
 | .tmp t=> pure (tmps.getD t undef)
 | .cell t ty=> do loadVar ty (<-asAddr (tmps.getD t undef))
theorem Ni (fn:Func) (tmps:Array Value):results fn tmps=(do
 let vs <-fn.results.mapM (yO tmps)
 return if h:vs.size=1 then vs[0] else .tuple vs):=by
 unfold results
 congr 1
inductive FrzTo (H:aa):D->D->Prop
 | same (d:D):FrzTo H d d
 | any (d:D):FrzTo H d .any
 | nil (n:Nat):FrzTo H (.v (.slice none 0 0)) (.list n [])
 | own (i j:Nat) (x:Value):FrzTo H (.own i x) (.own j x)
 | nilown (j:Nat):FrzTo H (.v (.slice none 0 0)) (.own j (.slice none 0 0))
 | bptr (i j b off:Nat):FrzTo H (.bptr i b off) (.bptr j b off)
 | row {id:Nat} {x:Value} {el n:Nat} {es es':List D} (h:H id=some (.row x el n es)) (hl:es.length=es'.length) (hk: ∀d∈es',d.kn=true/\d.cells.length=n)
    (he: ∀ (k:Nat) (c c':D),es[k]?=some c->es'[k]?=some c'->FrzTo H c c'):FrzTo H (.own id x) (.list n es')
 | sub {id:Nat} {x:Value} {el n lo hi:Nat} {es es':List D} (h:H id=some (.row x el n es)) (hl: ((es.take hi).drop lo).length=es'.length) (hk: ∀d∈es',d.kn=true/\d.cells.length=n)
    (he: ∀ (k:Nat) (c c':D),((es.take hi).drop lo)[k]?=some c->es'[k]?=some c'->FrzTo H c c'):FrzTo H (.sub id x n lo hi) (.list n es')
 | list {n:Nat} {es es':List D} (hl:es.length=es'.length) (hk: ∀d∈es',d.kn=true/\d.cells.length=n)
    (he: ∀ (k:Nat) (c c':D),es[k]?=some c->es'[k]?=some c'->FrzTo H c c'):FrzTo H (.list n es) (.list n es')
 | box {id b off:Nat} {cs:List D} (h:H id=some (.box b cs)):FrzTo H (.bptr id b off) (.cptr cs off)
 | agg {cs cs':List D} (hl:cs.length=cs'.length) (h: ∀ (k:Nat) (c c':D),cs[k]?=some c->cs'[k]?=some c'->FrzTo H c c'):FrzTo H (.agg cs) (.agg cs')
 | tup {cs cs':List D} (hl:cs.length=cs'.length) (h: ∀ (k:Nat) (c c':D),cs[k]?=some c->cs'[k]?=some c'->FrzTo H c c'):FrzTo H (.tup cs) (.tup cs')
 | clo {f:Nat} {cs cs':List D} (hl:cs.length=cs'.length) (h: ∀ (k:Nat) (c c':D),cs[k]?=some c->cs'[k]?=some c'->FrzTo H c c'):FrzTo H (.clo f cs) (.clo f cs')
 | nomp:FrzTo H (.v (.map none)) (.mp [])
 | mrow {id:Nat} {x:Value} {es es':List D} (h:H id=some (.mrow x es)) (hl:es.length=es'.length) (he: ∀ (k:Nat) (c c':D),es[k]?=some c->es'[k]?=some c'->FrzTo H c c'):FrzTo H (.own id x) (.mp es')
 | mp {es es':List D} (hl:es.length=es'.length) (he: ∀ (k:Nat) (c c':D),es[k]?=some c->es'[k]?=some c'->FrzTo H c c'):FrzTo H (.mp es) (.mp es')
def ed:aa:=fun _=> none
def LeL (ds ds':List D):Prop:=ds.length=ds'.length/\ ∀ (k:Nat) (d d':D),ds[k]?=some d->ds'[k]?=some d'->FrzTo ed d d'
def fY (ds:List D):Sg:=fun t=> (ds[t]?).getD .any
section
variable {P:Program} {im:List Nat} {E:vz} {S:Nat->Spc}
theorem Ej {tp I:Nat->Prop} {w:World} {el n:Nat} {x:Value} {es:List D} (hI: ∀b,x.ownBlock=some b->I b) (h:ResOk (R tp I w) w (.row x el n es)):R tp I w x (.list n es):=by
 obtain⟨xs,⟨g1,g2⟩,g3,g4⟩:=h
 have hfl:=bt (es:=es) (fun d hd=> (g3 d hd).2)
 rcases g2 with⟨rfl,h0⟩ | ⟨g,cap,cur,rfl,_,g5,g6,g7,g8,g9⟩
 ·have:es= []:=List.eq_nil_of_length_eq_zero h0
  subst this
  exact .nolist _ _ _
 ·have hcell: ∀ (k:Nat) (c:D),(bF es)[k]?=some c-> ∃y,xs[k]?=some y/\w.cell? ⟨g,0+k,none⟩=some y/\y.oneCell'=true/\R tp I w y c:=by
   intro k c hk
   have hlt:k < xs.length:=by
    rw[g1,<-hfl];exact(List.getElem?_eq_some_iff.1 hk).1
   have hy:xs[k]?=some xs[k]:=List.getElem?_eq_getElem hlt
   refine⟨xs[k],hy,?_,(g4 k _ c hy hk).1,(g4 k _ c hy hk).2⟩
   rw[Nat.zero_add,cell_of_row w g k cur el (0,0) g5]
   have: (cur.toList.take (es.length*n))[k]?=some xs[k]:=by rw[g9];exact hy
   rw[List.getElem?_take] at this
   split at this
   ·simpa using this
   ·cases this
  refine .list g 0 cap n es (fun k=> xs.getD k undef) (hI g rfl) g6 g7 (fun _=> ⟨_,_,g5⟩) g3 (fun k c hk=> ?_) (fun k c hk=> ?_) (fun k c hk=> ?_)
  all_goals
   obtain⟨y,h1,h2,h3,h4⟩:=hcell k c hk
   have hg:xs.getD k undef=y:=by simp[List.getD,h1]
   try dsimp only
   rw[hg]
  ·exact h2
  ·exact h3
  ·exact h4
theorem EN {tp I:Nat->Prop} {w:World} {n:Nat} {es es':List D} (hl:es.length=es'.length) (hk: ∀d∈es',d.kn=true/\d.cells.length=n)
 (ih: ∀ (k:Nat) (c c':D),es[k]?=some c->es'[k]?=some c'-> ∀ {x:Value},R tp I w x c->R tp I w x c') {x:Value} (hr:R tp I w x (.list n es)):R tp I w x (.list n es'):=by
 cases hr with
 | nolist a cap _=>
   have:es'= []:=List.eq_nil_of_length_eq_zero (by simpa using hl.symm)
   subst this
   exact .nolist _ _ _
 | list b off cap _ _ f hI hc hm hz hn hcell h1 h=>
   have key: ∀ (k:Nat) (c':D),(bF es')[k]?=some c'-> ∃c,(bF es)[k]?=some c/\R tp I w (f k) c':=by
    intro k c' hc'
    have hfl':=bt (es:=es') (fun d hd=> (hk d hd).2)
    have hklt:k < es'.length*n:=by rw[<-hfl'];exact(List.getElem?_eq_some_iff.1 hc').1
    have hn0:0 < n:=by
     rcases Nat.eq_zero_or_pos n with h0 | h0
     ·rw[h0] at hklt;omega
     ·exact h0
    have hi:k/n < es'.length:=Nat.div_lt_of_lt_mul (by rw[Nat.mul_comm];exact hklt)
    have hj:k % n < n:=Nat.mod_lt _ hn0
    have hkk:k/n*n+k % n=k:=by rw[Nat.mul_comm];exact Nat.div_add_mod k n
    have hi':k/n < es.length:=by omega
    have g1:=dm (es:=es) (fun d hd=> (hn d hd).2) (i:=k/n) (j:=k % n) hj
    have g2:=dm (es:=es') (fun d hd=> (hk d hd).2) (i:=k/n) (j:=k % n) hj
    rw[hkk] at g1 g2
    rw[List.getElem?_eq_getElem hi'] at g1
    rw[List.getElem?_eq_getElem hi] at g2
    simp only[Option.bind_some] at g1 g2
    have hke:=hn _ (List.getElem_mem hi')
    have hke':=hk _ (List.getElem_mem hi)
    have hjl:k % n < es[k/n].cells.length:=by rw[hke.2];exact hj
    have hjl':k % n < es'[k/n].cells.length:=by rw[hke'.2];exact hj
    refine⟨es[k/n].cells[k % n],by rw[g1];exact List.getElem?_eq_getElem hjl,?_⟩
    have hcc:es'[k/n].cells[k % n]?=some c':=by rw[<-g2];exact hc'
    have ihk:= @ih (k/n) es[k/n] es'[k/n] (List.getElem?_eq_getElem hi') (List.getElem?_eq_getElem hi)
    have cellat: ∀j,j < n-> ∀c,es[k/n].cells[j]?=some c->(f (k/n*n+j)).oneCell'=true/\R tp I w (f (k/n*n+j)) c:=by
     intro j hj c hc
     have g3:=dm (es:=es) (fun d hd=> (hn d hd).2) (i:=k/n) (j:=j) hj
     rw[List.getElem?_eq_getElem hi'] at g3
     simp only[Option.bind_some] at g3
     rw[hc] at g3
     exact⟨h1 _ c g3,h _ c g3⟩
    by_cases hag: ∃cs,es[k/n]= .agg cs
    ·obtain⟨cs,hag⟩:=hag
     have hcs:cs.length=n:=by have:=hke.2;rw[hag] at this;exact this
     have hx:R tp I w (.agg ((List.range n).map fun j=> f (k/n*n+j)).toArray) (.agg cs):=by
      refine .agg _ _ (by simp[hcs]) (fun y hy=> ?_) (fun j y c hy hc=> ?_)
      ·obtain⟨j,hj,rfl⟩:=List.mem_map.1 hy
       have hj:=List.mem_range.1 hj
       have hjc:j < cs.length:=by omega
       exact(cellat j hj cs[j] (by rw[hag];exact List.getElem?_eq_getElem hjc)).1
      ·have hjn:j < n:=by rw[<-hcs];exact(List.getElem?_eq_some_iff.1 hc).1
       rw[List.getElem?_map,List.getElem?_range hjn] at hy
       cases hy
       exact(cellat j hjn c (by rw[hag];exact hc)).2
     rw[<-hag] at hx
     have hq:=(ihk hx).cells hke'.1
     have:=(hq.2 (k % n) (f (k/n*n+k % n)) c' (by simp[Value.cells,hj]) hcc).2
     rw[hkk] at this
     exact this
    ·have hcell1:es[k/n].cells= [es[k/n]]:=by
      have:=hke.1
      cases hd:es[k/n] <;> first | rfl | (rw[hd] at hag;exact absurd ⟨_,rfl⟩ hag)
     have hn1:n=1:=by have:=hke.2;rw[hcell1] at this;simpa using this.symm
     subst hn1
     have hj0:k % 1=0:=Nat.mod_one k
     have hx:=(cellat 0 (by omega) es[k/1] (by rw[hcell1];rfl))
     have hq:=(ihk hx.2).cells hke'.1
     have hone: (f (k/1*1+0)).cells= #[f (k/1*1+0)]:=by
      have:=hx.1
      revert this
      generalize f (k/1*1+0)=y
      intro hy
      cases y <;> first | rfl | (simp[Value.oneCell'] at hy)
     have:=(hq.2 0 (f (k/1*1+0)) c' (by rw[hone];rfl) (by rw[hj0] at hcc;exact hcc)).2
     simpa using this
   rw[hl]
   refine .list b off cap n es' f hI (by omega) hm hz hk (fun k c hkc=> ?_) (fun k c hkc=> ?_) (fun k c hkc=> ?_)
   ·obtain⟨c0,h0,_⟩:=key k c hkc;exact hcell k c0 h0
   ·obtain⟨c0,h0,_⟩:=key k c hkc;exact h1 k c0 h0
   ·obtain⟨c0,h0,h2⟩:=key k c hkc;exact h2
theorem SP {tp I:Nat->Prop} {w:World} {id n lo hi:Nat} {x q:Value} {es:List D} {I':Nat->Prop} (hl:R tp I w x (.list n es)) (hq:R tp I' w q (.sub id x n lo hi)):R tp I w q (.list n ((es.take hi).drop lo)):=by
 cases hq with
 | subnil=>
   have: ((es.take 0).drop 0)= []:=by simp
   rw[this]
   exact .nolist _ _ _
 | sub _ b len cap _ _ _ p h1 h2 h3 hm hp=>
   cases hl with
   | nolist _ _ _=>
     have e0:hi -lo=0:=by omega
     rw[e0,List.take_nil,List.drop_nil]
     exact .nolist _ _ _
   | list _ _ _ _ _ f hI hc hm' hz hn hcell hone hR=>
     by_cases hlc:lo < cap\/lo=0
     ·have:=EO hI hc hm' hz hn hcell hone hR h1 h2
      rw[hp hlc]
      simpa using this
     ·have e0:hi -lo=0:=by omega
      have e1: (es.take hi).drop lo= []:=by
       apply List.eq_nil_of_length_eq_zero
       simp;omega
      rw[e0,e1]
      exact .nolist _ _ _
theorem FrzTo.R {tp I I':Nat->Prop} {w:World} {H Hf:aa} {d d':D} (h:FrzTo Hf d d') (hok: ∀i r,Hf i=some r->ResOk (R tp I w) w r) (hI: ∀b,I b->I' b)
 (hb: ∀i r b,Hf i=some r->r.blk=some b->I' b): ∀ {x:Value},Gv.R tp I w x d->Gv.R tp I' w x d':=by
 have mv: ∀x e,Gv.R tp I w x e->Gv.R tp I' w x e:=fun x e hr=> hr.mono (fun _ h=> h) (fun b hb=> ⟨hI b hb,rfl⟩) (fun b _=> .refl _ _)
 have hok': ∀i r,Hf i=some r->ResOk (Gv.R tp I' w) w r:=fun i r h=> (hok i r h).conv mv (fun _ _=> rfl)
 suffices ∀ {x:Value},Gv.R tp I' w x d->Gv.R tp I' w x d' from fun {x} hr=> this (mv x _ hr)
 clear hok mv hI
 induction h with
 | same d=> exact fun hr=> hr
 | any d=> exact fun _=> .any _
 | nil n=>
   intro x hr
   cases hr
   exact .nolist _ _ _
 | own i j x=>
   intro x hr
   cases hr with
   | own _ _ h1=> exact .own _ _ h1
 | nilown j=>
   intro x hr
   cases hr
   exact .own _ _ rfl
 | bptr i j b off=>
   intro x hr
   cases hr
   exact .bptr _ _ _
 | @row id y el n es es' h hl hk he ih=>
   intro x hr
   cases hr
   exact EN hl hk (fun k c c' h1 h2=> ih k c c' h1 h2) (Ej (fun b hb'=> hb _ _ b h hb') (hok' _ _ h))
 | @sub id y el n lo up es es' h hl hk he ih=>
   intro x hr
   refine EN hl hk (fun k c c' h1 h2=> ih k c c' h1 h2) (SP ?_ hr)
   exact Ej (fun b hb'=> hb _ _ b h hb') (hok' _ _ h)
 | @list n es es' hl hk he ih=>
   intro x hr
   exact EN hl hk (fun k c c' h1 h2=> ih k c c' h1 h2) hr
 | @box id b off cs h=>
   intro x hr
   cases hr
   obtain⟨xs,el,g1,g2,g3⟩:=hok' _ _ h
   obtain⟨f,k1,k2,k3⟩:=oW g1 g2 g3
   have:=Gv.R.cptr (tp:=tp) b 0 cs off f (hb _ _ b h rfl) (fun _=> ⟨_,_,g1⟩) k1 k2 k3
   simpa using this
 | @agg cs cs' hl h ih=>
   intro x hr
   cases hr with
   | agg xs _ hlx h1 hx=>
     refine .agg xs cs' (hlx.trans hl) h1 (fun k y c hy hc=> ?_)
     have hk:k < cs.length:=by rw[hl];exact(List.getElem?_eq_some_iff.1 hc).1
     exact ih k cs[k] c (List.getElem?_eq_getElem hk) hc (hx k y _ hy (List.getElem?_eq_getElem hk))
 | @tup cs cs' hl h ih=>
   intro x hr
   cases hr with
   | tup xs _ hlx hx=>
     refine .tup xs cs' (hlx.trans hl) (fun k y c hy hc=> ?_)
     have hk:k < cs.length:=by rw[hl];exact(List.getElem?_eq_some_iff.1 hc).1
     exact ih k cs[k] c (List.getElem?_eq_getElem hk) hc (hx k y _ hy (List.getElem?_eq_getElem hk))
 | @clo f cs cs' hl h ih=>
   intro x hr
   cases hr with
   | clo _ xs _ hlx hx=>
     refine .clo f xs cs' (hlx.trans hl) (fun k y c hy hc=> ?_)
     have hk:k < cs.length:=by rw[hl];exact(List.getElem?_eq_some_iff.1 hc).1
     exact ih k cs[k] c (List.getElem?_eq_getElem hk) hc (hx k y _ hy (List.getElem?_eq_getElem hk))
 | nomp=>
   intro x hr
   have:=hr.inv_v
   subst this
   exact .nomp
 | @mrow id y es es' h hl he ih=>
   intro x hr
   cases hr
   obtain⟨b,ents,clock,rfl,g1,g2,g3⟩:=hok' _ _ h
   refine .mp b ents clock es' (hb _ _ b h rfl) g1 (g3.1.trans hl) g2 (fun k e c he hc=> ?_)
   have hk:k < es.length:=by rw[hl];exact(List.getElem?_eq_some_iff.1 hc).1
   exact ih k es[k] c (List.getElem?_eq_getElem hk) hc (g3.2 k e _ he (List.getElem?_eq_getElem hk))
 | @mp es es' hl he ih=>
   intro x hr
   cases hr with
   | nomp=>
     have:es'= []:=List.length_eq_zero_iff.1 (by simpa using hl.symm)
     subst this
     exact .nomp
   | mp b ents clock _ hI hh hl2 hbo h=>
     refine .mp b ents clock es' hI hh (hl2.trans hl) hbo (fun k e c he hc=> ?_)
     have hk:k < es.length:=by rw[hl];exact(List.getElem?_eq_some_iff.1 hc).1
     exact ih k es[k] c (List.getElem?_eq_getElem hk) hc (h k e _ he (List.getElem?_eq_getElem hk))
theorem wM {tp I:Nat->Prop} {w:World} {a:Act} {σ:Sg} {H:aa} (hr: ∀t,R tp I w (a.tmps.getD t undef) (σ t)) (hsat: ∀i r,H i=some r->ResOk (R tp I w) w r):
 ∀ (rvs:List ResultVar) (rs:List ar) (K:List D->Prop),rvs.mapM (iQ P)=some rs->ul rs σ H K->
  ∃ (vs:List Value) (ds:List D),(rvs.mapM (yO a.tmps)).run P w= .ok vs w/\vs.length=ds.length/\
   (∀ (k:Nat) (x:Value) (d:D),vs[k]?=some x->ds[k]?=some d->R tp I w x d)/\K ds
 | [],rs,K,hc,hv=> by
   simp at hc
   subst hc
   exact⟨[], [],by simp,rfl,fun k x d h=> by simp at h,hv⟩
 | .tmp t::rvs,rs,K,hc,hv=> by
   rw[List.mapM_cons] at hc
   simp only[iQ,Option.bind_eq_bind,Option.bind_eq_some_iff] at hc
   obtain⟨x,hx,y,hy,hc⟩:=hc
   cases hx;cases hc
   obtain⟨vs,ds,h1,h2,h3,h4⟩:=wM hr hsat rvs y _ hy hv
   refine⟨a.tmps.getD t undef::vs,σ t::ds,?_,by simp[h2],fun k x d hx hd=> ?_,h4⟩
   ·rw[List.mapM_cons]
    simp only[Sem.run_bind,yO,Sem.run_pure,Result.andThen_ok,h1]
   ·cases k with
    | zero=> simp at hx hd;subst hx;subst hd;simpa using hr t
    | succ k=> simp at hx hd;exact h3 k x d hx hd
 | .cell t ty::rvs,rs,K,hc,hv=> by
   rw[List.mapM_cons] at hc
   simp only[iQ,Option.bind_eq_bind,Option.bind_eq_some_iff] at hc
   obtain⟨x,⟨agg,ha,sz,hs,hx⟩,y,hy,hc⟩:=hc
   split at hx
   ·rename_i hcond
    cases hx;cases hc
    simp only[ul] at hv
    have hg := HH (P := P) (o := { dst := none, op := .load ty (.tmp t), type := 0, pos := "", after := #[], guard := none }) (a := a) rfl ha hs (by simpa using hcond) (hr t) (fun _ _ h => h) hsat hv
    obtain⟨v,d,hrun,hR,hk⟩:=hg
    obtain⟨vs,ds,h1,h2,h3,h4⟩:=wM hr hsat rvs y _ hy hk
    have hrun': (do loadVar ty (<-asAddr (a.tmps.getD t undef)):Sem Value).run P w= .ok v w:=by
     simp only[execOp,Act.eval,Instr.loadAt] at hrun
     generalize a.tmps.getD t undef=q at*
     cases q with
     | pointer p=>
       cases p with
       | some ad=>
         simp only[Instr.sureAddr,asAddr,Sem.run_bind,Sem.run_pure,Result.andThen_ok] at hrun ⊢
         generalize (loadVar ty ad).run P w=r at*
         cases r with
         | ok u w'=>
           simp only[Result.andThen_ok,Result.ok.injEq,Next.value.injEq] at hrun
           obtain⟨rfl,rfl⟩:=hrun
           rfl
         | halt h w'=> simp[Result.andThen] at hrun
       | none=> simp[Instr.sureAddr,Result.andThen] at hrun
     | _=> simp[Instr.sureAddr,Result.andThen] at hrun
    refine⟨v::vs,d::ds,?_,by simp[h2],fun k x e hx he=> ?_,h4⟩
    ·rw[List.mapM_cons]
     rw[Sem.run_bind]
     rw[show Sem.run P (yO a.tmps (ResultVar.cell t ty)) w= .ok v w from hrun']
     simp only[Result.andThen_ok,Sem.run_bind,h1,Sem.run_pure]
    ·cases k with
     | zero=> simp at hx he;subst hx;subst he;exact hR
     | succ k=> simp at hx he;exact h3 k x e hx he
   ·cases hx
theorem Gy {fn:Func} {rs:List ar} (hc:fn.results.toList.mapM (iQ P)=some rs) {tp I:Nat->Prop} {w:World} {a:Act} {σ:Sg} {H:aa} (hr: ∀t,R tp I w (a.tmps.getD t undef) (σ t)) (hsat: ∀i r,H i=some r->ResOk (R tp I w) w r)
 {K:D->Prop} (hv:ul rs σ H fun ds=> K (jN ds)): ∃v d,(results fn a.tmps).run P w= .ok v w/\R tp I w v d/\K d:=by
 obtain⟨vs,ds,h1,h2,h3,h4⟩:=wM hr hsat fn.results.toList rs _ hc hv
 have hm: (fn.results.mapM (yO a.tmps)).run P w= .ok vs.toArray w:=by
  rw[Array.mapM_eq_mapM_toList]
  simp only[Sem.run_map,h1,Result.andThen_ok]
 refine⟨if h:vs.toArray.size=1 then vs.toArray[0] else .tuple vs.toArray,jN ds,?_,?_,h4⟩
 ·rw[Ni,Sem.run_bind,hm]
  simp only[Result.andThen_ok,Sem.run_pure]
 ·match vs,ds,h2 with
  | [v], [d],_=> exact h3 0 v d rfl rfl
  | [], [],_=> exact .tup [] [] rfl (fun k x c h=> by simp at h)
  | v1::v2::vs,d1::d2::ds,hl=> exact .tup _ _ hl h3
theorem MB {z:List PanicEntry->Prop} {f:Nat} {fn:Func} {code:Code} {cc:CC} {rs:List ar} {A:PT} (hqu:CO P z S cc) (hmix:P.follows .mixedOrders=true) (hf:P.funcs[f]?=some fn) (hb:fn.body=some code) (hce:fg P f) {N:Nat} (hN:fn.ntmps=N)
 (hcc:aZ P im N code=some (cu cc)) (hrs:fn.results.toList.mapM (iQ P)=some rs)
 (hA: ∀ (ds:List D) (H:aa) (d:Nat) (K:D->aa->Prop),A d ds H K->ds.length<=N/\
   ∃ (ds':List D) (H0:aa) (ι:Nat->Nat),LeL ds ds'/\(∀i r,H0 i=some r->H (ι i)=some r)/\(∀i j r s,H0 i=some r->H0 j=some s->ι i=ι j->i=j)/\
    ∃Q:D->aa->Prop,vc S cc (rF rs Q) (fY ds') H0/\ ∀r H',Q r H'-> ∃ (r':D) (Hf Hc:aa) (κ:Nat->Option Nat),FrzTo Hf r r'/\(∀j q,Hf j=some q->H' j=some q/\ ∀i,κ i≠some j)/\K r' Hc/\
     (∀i s,Hc i=some s->match κ i with | some j=> H' j=some s | none=> H i=some s/\ ∀k q,H0 k=some q->ι k≠i)/\
     (∀i j k s q,Hc i=some s->Hc j=some q->κ i=some k->κ j=some k->i=j)):TriZ z P f A:=by
 intro O tp w vs ds H d K hO htl hsat hlen hargs hAK
 refine⟨hce,?_⟩
 obtain⟨hdN,ds',H0,ι,hle,hsub,hinj,Q,hv,hQ⟩:=hA ds H d K hAK
 let passed:Nat->Prop:=fun i=> ∃k q,H0 k=some q/\ι k=i
 let rest:Nat->Prop:=fun b=> ∃i r,H i=some r/\ ¬passed i/\r.blk=some b
 let E:vz:= { O:=fun b=> O b\/rest b,tp0:=tp,w0:=w,own0:=dO H0,N:=N }
 have hownH0: ∀b,dO H0 b->dO H b:=fun b ⟨i,r,h1,h2⟩=> ⟨ι i,r,hsub i r h1,h2⟩
 have hrestlt: ∀b,rest b->b < w.heap.size:=fun b ⟨i,r,h1,_,h2⟩=> (hsat.ok i r h1).lt h2
 have hrestown: ∀b,rest b-> ¬dO H0 b:=fun b ⟨i,r,h1,h2,h3⟩ ⟨j,s,h4,h5⟩=> h2 ⟨j,s,h4,(hsat.dis i (ι j) r s b h1 (hsub j s h4) h3 h5).symm⟩
 have himm: ∀b,bG O tp H w b->bG E.O tp H0 w b:=fun b hb=> ⟨hb.1,fun h=> h.elim hb.2.1 (fun⟨i,r,h1,_,h2⟩=> hb.2.2.2 ⟨i,r,h1,h2⟩),hb.2.2.1,fun h=> hb.2.2.2 (hownH0 b h)⟩
 have hmove: ∀x e,R tp (bG O tp H w) w x e->R tp (bG E.O tp H0 w) w x e:=fun x e hr=> hr.mono (fun _ h=> h) (fun b hb=> ⟨himm b hb,rfl⟩) (fun b _=> .refl _ _)
 have hstw:StW E tp H0 w:=by
  refine⟨fun b hb=> hb.elim (hO b) (hrestlt b),fun b h=> h,fun b h=> .inl h,⟨htl.1,htl.2.mono (fun _ h=> h) hownH0⟩, .refl _ _ _,fun b hb=> .inl hb,⟨fun i j r s b h1 h2 h3 h4=> ?_,fun i r b h1 h2=> ⟨fun h=> ?_,?_⟩,fun i r h1=> ?_⟩⟩
  ·exact hinj i j r s h1 h2 (hsat.dis _ _ r s b (hsub i r h1) (hsub j s h2) h3 h4)
  ·rcases h with h | h
   ·exact(hsat.out _ r b (hsub i r h1) h2).1 h
   ·exact hrestown b h ⟨i,r,h1,h2⟩
  ·exact(hsat.out _ r b (hsub i r h1) h2).2
  ·exact(hsat.ok _ r (hsub i r h1)).conv hmove (fun _ _=> rfl)
 have hst:St E (fY ds') H0 { tmps:=vs.toArray++Array.replicate (fn.ntmps -vs.toArray.size) undef,defers:= [] } w:=by
  refine⟨rfl,?_,tp,hstw,fun t=> ?_⟩
  ·show(vs.toArray++Array.replicate (fn.ntmps -vs.toArray.size) undef).size=N
   simp
   omega
  ·unfold fY
   cases hd:ds'[t]? with
   | none=> exact .any _
   | some e'=>
     have hlt:t < vs.length:=by rw[hlen,hle.1];exact(List.getElem?_eq_some_iff.1 hd).1
     have hlt':t < ds.length:=by rw[<-hlen];exact hlt
     have hg: (vs.toArray++Array.replicate (fn.ntmps -vs.toArray.size) undef).getD t undef=vs[t]:=by
      rw[Array.getD_eq_getD_getElem?,Array.getElem?_append_left (by simpa using hlt)]
      simp[hlt]
     simp only[Option.getD_some,hg]
     have he:=List.getElem?_eq_getElem hlt'
     exact(hle.2 t _ e' he hd).R (H:=ed) (fun i r h=> by cases h) (fun _ h=> h) (fun i r b h=> by cases h) (hmove _ _ (hargs t _ _ (by simp[hlt]) he))
 have hwp:=G7 hmix cc hqu code (by exact hcc) _ _ _ _ w hst hv
 refine calls_of_wp hf hb (Code.wp_mono ?_ hwp)
 have fin: ∀a' w' σ' H',St E σ' H' a' w'->(ul rs σ' H' fun ds=> Q (jN ds) H')->
  a'.defers= []/\ ∃v,(results fn a'.tmps).run P w'= .ok v w'/\Xi O tp H w K (.returned v) w':=by
  intro a' w' σ' H' hst' hres
  obtain⟨hd',hN',tp',hw',hr'⟩:=hst'
  obtain⟨v,r0,hrun,hR,hq⟩:=Gy (K:=fun r=> Q r H') hrs hr' hw'.sat.ok hres
  obtain⟨r,Hf,Hc,κ,hfz,hHf,hK,hκ,hκi⟩:=hQ r0 H' hq
  refine⟨hd',v,hrun,v,r,Hc,tp',rfl,hK,hw'.tpx,hw'.tpn,hw'.tpl.1,?_,?_,?_,?_⟩
  ·-- the step
   have hs:=hw'.step
   exact⟨hs.os,hs.tape,hs.output,hs.size,fun b hb ho ht=> hs.same b hb (fun h=> ho (hownH0 b h)) ht,hs.tapes,hs.drawn⟩
  all_goals
   have hkn: ∀i s,Hc i=some s->(∃j,κ i=some j/\H' j=some s)\/(κ i=none/\H i=some s/\ ¬passed i):=fun i s hi=> by
    have:=hκ i s hi
    cases hk:κ i with
    | some j=> rw[hk] at this;exact .inl ⟨j,rfl,this⟩
    | none=> rw[hk] at this;exact .inr ⟨rfl,this.1,fun⟨k,q,h1,h2⟩=> this.2 k q h1 h2⟩
  ·intro b ⟨i,s,h1,h2⟩
   rcases hkn i s h1 with⟨j,_,h3⟩ | ⟨_,h3,_⟩
   ·rcases hw'.loc b ⟨j,s,h3,h2⟩ with h4 | h4
    ·exact .inl (hownH0 b h4)
    ·exact .inr h4
   ·exact .inl ⟨i,s,h3,h2⟩
  all_goals
   have hownc: ∀b,dO Hc b->dO H' b\/rest b:=fun b ⟨i,s,h1,h2⟩=> by
    rcases hkn i s h1 with⟨j,_,h3⟩ | ⟨_,h3,h4⟩
    ·exact .inl ⟨j,s,h3,h2⟩
    ·exact .inr ⟨i,s,h3,h4,h2⟩
   have himmc: ∀b,bG E.O tp' H' w' b->bG O tp' Hc w' b:=fun b hb=> ⟨hb.1,fun h=> hb.2.1 (.inl h),hb.2.2.1,fun h=> by
    rcases hownc b h with h | h
    ·exact hb.2.2.2 h
    ·exact hb.2.1 (.inr h)⟩
   have hmovec: ∀x e,R tp' (bG E.O tp' H' w') w' x e->R tp' (bG O tp' Hc w') w' x e:=fun x e hr=> hr.mono (fun _ h=> h) (fun b hb=> ⟨himmc b hb,rfl⟩) (fun b _=> .refl _ _)
  ·refine⟨fun i j s q b h1 h2 h3 h4=> ?_,fun i s b h1 h2=> ?_,fun i s h1=> ?_⟩
   ·rcases hkn i s h1 with⟨i',e1,k1⟩ | ⟨e1,k1,p1⟩
    ·rcases hkn j q h2 with⟨j',e2,k2⟩ | ⟨e2,k2,p2⟩
     ·have:=hw'.sat.dis i' j' s q b k1 k2 h3 h4
      subst this
      exact hκi i j i' s q h1 h2 e1 e2
     ·exact absurd (Or.inr ⟨j,q,k2,p2,h4⟩) (hw'.sat.out i' s b k1 h3).1
    ·rcases hkn j q h2 with⟨j',e2,k2⟩ | ⟨e2,k2,p2⟩
     ·exact absurd (Or.inr ⟨i,s,k1,p1,h3⟩) (hw'.sat.out j' q b k2 h4).1
     ·exact hsat.dis i j s q b k1 k2 h3 h4
   ·rcases hkn i s h1 with⟨i',e1,k1⟩ | ⟨e1,k1,p1⟩
    ·have:=hw'.sat.out i' s b k1 h2
     exact⟨fun h=> this.1 (.inl h),this.2⟩
    ·have h3:=hsat.out i s b k1 h2
     refine⟨h3.1,fun h=> ?_⟩
     rcases hw'.tpn b h with h4 | h4
     ·exact h3.2 h4
     ·have:=(hsat.ok i s k1).lt h2
      have h4':w.heap.size<=b:=h4
      omega
   ·rcases hkn i s h1 with⟨i',e1,k1⟩ | ⟨e1,k1,p1⟩
    ·exact(hw'.sat.ok i' s k1).conv hmovec (fun _ _=> rfl)
    ·-- a resource that was not handed in is as it was
     have hs:=hw'.step
     have hsame: ∀b,b < w.heap.size-> ¬dO H0 b-> ¬tp b->w'.heap[b]?=w.heap[b]?:=hs.same
     refine(hsat.ok i s k1).conv (fun x e hr=> ?_) (fun b hb=> hsame b ((hsat.ok i s k1).lt hb) (hrestown b ⟨i,s,k1,p1,hb⟩) (hsat.out i s b k1 hb).2)
     refine hr.mono hw'.tpx (fun b hb=> ?_) hs.tapes
     have h0: ¬dO H0 b:=fun h=> hb.2.2.2 (hownH0 b h)
     have hsz:w.heap.size<=w'.heap.size:=hs.size
     have hbl:b < w.heap.size:=hb.1
     refine⟨⟨by omega,hb.2.1,fun h=> ?_,fun h=> ?_⟩,hsame b hb.1 h0 hb.2.2.1⟩
     ·rcases hw'.tpn b h with h4 | h4
      ·exact hb.2.2.1 h4
      ·have h4':w.heap.size<=b:=h4
       omega
     ·rcases hownc b h with h | h
      ·rcases hw'.loc b h with h4 | h4
       ·exact h0 h4
       ·have h4':w.heap.size<=b:=h4
        omega
      ·obtain⟨j,q,h5,_,h6⟩:=h
       exact hb.2.2.2 ⟨j,q,h5,h6⟩
  ·refine hfz.R (H:=ed) (fun i q hi=> hw'.sat.ok i q (hHf i q hi).1) himmc (fun i q b hi hb=> ?_) hR
   obtain⟨hi',hne⟩:=hHf i q hi
   have ho:=hw'.sat.out i q b hi' hb
   refine⟨(hw'.sat.ok i q hi').lt hb,fun h=> ho.1 (.inl h),ho.2,fun⟨j,s,h1,h2⟩=> ?_⟩
   rcases hkn j s h1 with⟨j',e1,k1⟩ | ⟨e1,k1,p1⟩
   ·have:=hw'.sat.dis i j' q s b hi' k1 hb h2
    subst this
    exact hne j e1
   ·exact ho.1 (.inr ⟨j,s,k1,p1,h2⟩)
 intro e a' w' hp
 cases e with
 | normal=>
   obtain⟨σ',H',hs,hk⟩:=hp
   let ⟨h1,v,h2,h3⟩:=fin a' w' σ' H' hs hk
   exact⟨h1,v,h2, .inl h3⟩
 | ret=>
   obtain⟨σ',H',hs,hk⟩:=hp
   let ⟨h1,v,h2,h3⟩:=fin a' w' σ' H' hs hk
   exact⟨h1,v,h2, .inl h3⟩
 | exit i=>
   obtain⟨σ',H',hs,hk⟩:=hp
   exact hk.elim
 | goto l=> exact hp.elim
 | panic c=>
   have hs:=hp.2.2
   exact⟨hp.1, .inr ⟨c,rfl,hp.2.1,⟨hs.os,hs.tape,hs.output,hs.size,fun b hb ho ht=> hs.same b hb (fun h=> ho (hownH0 b h)) ht,hs.tapes,hs.drawn⟩⟩⟩
 | outgrown=> exact hp.elim
theorem mE {f:Nat} {fn:Func} {code:Code} {cc:CC} {rs:List ar} {A:PT} (hS: ∀f,Tri P f (S f).pt) (hmix:P.follows .mixedOrders=true) (hf:P.funcs[f]?=some fn) (hb:fn.body=some code) (hce:fg P f) {N:Nat} (hN:fn.ntmps=N)
 (hcc:aZ P im N code=some (cu cc)) (hrs:fn.results.toList.mapM (iQ P)=some rs)
 (hA: ∀ (ds:List D) (H:aa) (d:Nat) (K:D->aa->Prop),A d ds H K->ds.length<=N/\
   ∃ (ds':List D) (H0:aa) (ι:Nat->Nat),LeL ds ds'/\(∀i r,H0 i=some r->H (ι i)=some r)/\(∀i j r s,H0 i=some r->H0 j=some s->ι i=ι j->i=j)/\
    ∃Q:D->aa->Prop,vc S cc (rF rs Q) (fY ds') H0/\ ∀r H',Q r H'-> ∃ (r':D) (Hf Hc:aa) (κ:Nat->Option Nat),FrzTo Hf r r'/\(∀j q,Hf j=some q->H' j=some q/\ ∀i,κ i≠some j)/\K r' Hc/\
     (∀i s,Hc i=some s->match κ i with | some j=> H' j=some s | none=> H i=some s/\ ∀k q,H0 k=some q->ι k≠i)/\
     (∀i j k s q,Hc i=some s->Hc j=some q->κ i=some k->κ j=some k->i=j)):Tri P f A:=
 (MB (z:=KL) (lL hS cc) hmix hf hb hce hN hcc hrs hA).no
end
end Go.Gv
