/- A part of the framework and of the walks: T6b. -/
import Derived.Test.YtphdikcommfnhaaGreatDoorGg14
set_option linter.unusedSimpArgs false
set_option linter.unusedVariables false
set_option linter.unusedSectionVars false

namespace Go.Gv
theorem Spc.mono(s:Spc):oL s.pt:=by
 cases s with
 | none=>exact fun _ _ _ _ _ _ h=>h
 | pure c=>exact fun d ds H K K' hk h=>⟨h.1,fun r hr=>hk r H (h.2 r hr)⟩
 | gen A h=>exact h
section
variable {S:Nat->Spc}{σ:Sg}{H:ab}
theorem E5{c:COp}{K K':D->Prop}(hk:∀d,K d->K' d)(h:ak c σ H K):ak c σ H K':=by
 obtain⟨pre,out,hf⟩:=O5 c σ H
 have hf:∀K,ak c σ H K↔ (pre/\∀d,out d->K d):=hf
 rw[hf]at h ⊢
 exact⟨h.1,fun d hd=>hk d (h.2 d hd)⟩
theorem G0{n:Nat}{d:D}{K K':List D->Prop}(hk:∀l,K l->K' l)(h:lM n d H K):lM n d H K':=by
 unfold lM at h ⊢
 split at h <;> (try simp only at h ⊢)
 ·exact⟨h.1,hk _ h.2⟩
 ·split at h
  ·exact⟨h.1,h.2.1,hk _ h.2.2⟩
  ·exact h.elim
 ·exact hk _ h
 ·split at h
  ·exact⟨h.1,h.2.1,h.2.2.1,hk _ h.2.2.2⟩
  ·exact h.elim
theorem U5{n:Nat}{d:D}{K K':List D->Prop}(hk:∀l,K l->K' l)(h:tA n d H K):tA n d H K':=by
 unfold tA at h ⊢
 split at h
 ·exact⟨h.1,hk _ h.2⟩
 ·exact G0 hk h
theorem RG{o:MOp}{ds:List D}{dst:Option Nat}{K K':D->ab->Prop}(hk:∀d H,K d H->K' d H)(h:ib o ds dst H K):ib o ds dst H K':=by
 have rd:ta o ds H (fun d=>K d H)->ta o ds H (fun d=>K' d H):=fun h=>by
  obtain⟨p,q,hq⟩:=Tu o ds H
  exact(hq _).2 ⟨((hq _).1 h).1,fun d hd=>hk _ _ (((hq _).1 h).2 d hd)⟩
 unfold ib at h ⊢
 split at h
 ·split at h
  ·exact fun x=>hk _ _ (h x)
  ·exact h.elim
 ·split at h
  ·exact⟨h.1,h.2.1,h.2.2.1,fun l1 k' v' l2 e m=>hk _ _ (h.2.2.2.1 l1 k' v' l2 e m),fun e=>hk _ _ (h.2.2.2.2 e)⟩
  ·exact h.elim
 ·split at h
  ·split at h
   ·exact fun b=>hk _ _ (h b)
   ·exact fun b=>hk _ _ (h b)
   ·exact h.elim
  ·exact h.elim
 ·refine⟨h.1,?_⟩
  have h:=h.2
  split at h
  ·exact⟨h.1,fun e=>hk _ _ (h.2.1 e),fun l1 e l2 hl=>hk _ _ (h.2.2 l1 e l2 hl)⟩
  ·exact h.elim
 ·exact rd h
theorem Vp{c:COp}{dst:Option Nat}{K K':D->ab->Prop}(hk:∀d H,K d H->K' d H)(h:bi c dst σ H K):bi c dst σ H K':=by
 by_cases hro:c.isRead=true
 ·have e:∀K,bi c dst σ H K=ak c σ H fun d=>K d H:=by
   intro K
   cases c <;> first|rfl|(simp[COp.isRead]at hro;done)|skip
   ·rename_i im x
    cases im <;> first|rfl|(simp[COp.isRead]at hro)
   ·rename_i mo xs
    cases mo <;> first|(simp[COp.isRead,MOp.isRead]at hro;done)|rfl
  rw[e]at h ⊢
  exact E5 (fun d hd=>hk d H hd) h
 ·cases c
  case alloc el z=>
   simp only[bi]at h ⊢
   split at h
   ·exact fun b=>hk _ _ (h b)
   ·exact h.elim
  case box el im x=>
   cases im with
   | true=>exact absurd rfl hro
   | false=>
     simp only[bi]at h ⊢
     split at h
     ·exact⟨h.1,fun b=>hk _ _ (h.2 b)⟩
     ·exact h.elim
  case tbx el x=>
   simp only[bi]at h ⊢
   split at h
   ·exact⟨h.1,fun b=>hk _ _ (h.2 b)⟩
   ·exact h.elim
  case nslice el n=>
   simp only[bi]at h ⊢
   split at h
   ·exact fun b=>hk _ _ (h b)
   ·exact h.elim
  case mslice el n ps=>
   simp only[bi]at h ⊢
   split at h
   ·exact⟨h.1,fun b=>hk _ _ (h.2 b)⟩
   ·exact h.elim
  case mkslice el n b agg z l c=>
   simp only[bi]at h ⊢
   split at h
   ·split at h
    ·exact⟨h.1,h.2.1,h.2.2.1,h.2.2.2.1,fun x=>hk _ _ (h.2.2.2.2 x)⟩
    ·exact h.elim
   ·exact h.elim
  case store rt sz x y=>
   simp only[bi]at h ⊢
   refine⟨h.1,h.2.1,?_⟩
   have h2:=h.2.2
   clear h
   split at h2
   ·split at h2
    ·exact⟨h2.1,h2.2.1,hk _ _ h2.2.2⟩
    ·exact h2.elim
   ·split at h2
    ·exact⟨h2.1,h2.2.1,h2.2.2.1,h2.2.2.2.1,h2.2.2.2.2.1,fun d hd=>hk _ _ (h2.2.2.2.2.2 d hd)⟩
    ·exact h2.elim
   ·exact h2.elim
  case srange x=>
   simp only[bi]at h ⊢
   split at h
   ·exact fun b=>hk _ _ (h b)
   ·exact h.elim
  case snext x=>
   simp only[bi]at h ⊢
   split at h
   ·obtain⟨rfl,h⟩:=h
    refine⟨rfl,?_⟩
    split at h
    ·exact⟨h.1,fun e=>hk _ _ (h.2.1 e),fun e=>hk _ _ (h.2.2 e)⟩
    ·exact h.elim
   ·exact h.elim
  case append rt el n b x y=>
   simp only[bi]at h ⊢
   refine U5 (fun l h=>?_) h
   split at h
   ·split at h
    ·exact⟨h.1,h.2.1,h.2.2.1,h.2.2.2.1,h.2.2.2.2.1,fun v=>hk _ _ (h.2.2.2.2.2 v)⟩
    ·exact h.elim
   ·split at h
    ·exact⟨h.1,h.2.1,fun v=>hk _ _ (h.2.2 v)⟩
    ·exact h.elim
   ·split at h
    ·exact⟨h.1,h.2.1,h.2.2.1,h.2.2.2.1,h.2.2.2.2.1,h.2.2.2.2.2.1,h.2.2.2.2.2.2.1,fun v=>hk _ _ (h.2.2.2.2.2.2.2 v)⟩
    ·exact h.elim
   ·exact h.elim
  case appmk el n b agg z x c=>
   simp only[bi]at h ⊢
   split at h
   ·split at h
    ·exact⟨h.1,h.2.1,h.2.2.1,fun v=>hk _ _ (h.2.2.2 v)⟩
    ·exact h.elim
   ·exact h.elim
  case clear n agg z x=>
   simp only[bi]at h ⊢
   split at h
   ·split at h
    ·exact⟨h.1,h.2.1,hk _ _ h.2.2⟩
    ·exact h.elim
   ·split at h
    ·exact⟨h.1,h.2.1,h.2.2.1,hk _ _ h.2.2.2⟩
    ·exact h.elim
   ·exact hk _ _ h
   ·exact h.elim
  case copy n x y=>
   simp only[bi]at h ⊢
   refine G0 (fun l h=>?_) h
   split at h
   ·split at h
    ·exact⟨h.1,h.2.1,hk _ _ h.2.2⟩
    ·exact h.elim
   ·split at h
    ·exact⟨h.1,h.2.1,h.2.2.1,hk _ _ h.2.2.2⟩
    ·exact h.elim
   ·exact h.elim
  case m mo xs=>exact RG hk h
  case call f xs=>exact h.elim
  case callv f xs=>exact h.elim
  case callb r f xs=>exact h.elim
  all_goals exact absurd rfl hro
theorem P7{c:COp}{dst:Option Nat}{K K':D->ab->Prop}(hk:∀d H,K d H->K' d H)(h:ax S c dst σ H K):ax S c dst σ H K':=by
 cases c
 case call f args=>exact(S f).mono _ _ _ _ _ hk h
 case callb r f args=>exact(S f).mono _ _ _ _ _ hk h
 case callv f args=>
  simp only[ax]at h ⊢
  split at h
  ·exact(S _).mono _ _ _ _ _ hk h
  ·exact h.elim
 all_goals
  simp only[ax]at h ⊢
  exact Vp hk h
theorem Em:∀ (cs:List D) (H:ab) {K K':List D->ab->Prop},(∀cs H,K cs H->K' cs H)->En cs H K->En cs H K'
 | [],H,K,K',hk,h=>hk _ _ h
 | c::cs,H,K,K',hk,h=>by
   have other:En cs H (fun cs' H'=>K (c::cs') H')->En cs H (fun cs' H'=>K' (c::cs') H'):=fun h=>Em cs H (fun _ _ h=>hk _ _ h) h
   cases c
   case own id x=>
    simp only[En]at h ⊢
    split at h
    ·exact⟨h.1,Em cs _ (fun _ _ h=>hk _ _ h) h.2⟩
    ·exact h.elim
   all_goals exact other h
theorem RW{t n:Nat}{K K':Sg->ab->Prop}(hk:∀σ H,K σ H->K' σ H)(h:Fg t n σ H K):Fg t n σ H K':=by
 unfold Fg at h ⊢
 split at h <;> (try simp only at h ⊢)
 ·split at h
  ·exact⟨h.1,hk _ _ h.2⟩
  ·exact h.elim
 ·split at h
  ·exact⟨h.1,hk _ _ h.2⟩
  ·exact h.elim
 ·exact hk _ _ h
 ·split at h
  ·refine⟨h.1,h.2.1,?_⟩
   have h2:=h.2.2
   split at h2
   ·rename_i e
    rw[if_pos e]
    exact⟨h2.1,fun v=>hk _ _ (h2.2 v)⟩
   ·rename_i e
    rw[if_neg e]
    exact hk _ _ h2
  ·exact h.elim
 ·exact Em _ _ (fun _ _ h=>hk _ _ h) h
 ·exact hk _ _ h
theorem C7{g:Option (Nat×Bool)}{yes no yes' no':Sg->Prop}(h1:∀σ,yes σ->yes' σ)(h2:∀σ,no σ->no' σ)(h:oR g σ yes no):oR g σ yes' no':=by
 unfold oR at h ⊢
 split at h <;> (try simp only at h ⊢)
 ·exact h1 _ h
 ·split at h
  ·exact⟨fun e=>h1 _ (h.1 e),fun e=>h2 _ (h.2 e)⟩
  ·exact h2 _ h
  ·exact h.elim
theorem xR:∀ (l:List CI) (σ:Sg) (H:ab) {K K':Sg->ab->Prop},(∀σ H,K σ H->K' σ H)->B2 S l σ H K->B2 S l σ H K'
 | [],σ,H,K,K',hk,h=>hk _ _ h
 | .frz t n::r,σ,H,K,K',hk,h=>RW (fun σ H h=>xR r σ H hk h) h
 | .op dst g c::r,σ,H,K,K',hk,h=>C7 (fun σ h=>P7 (fun d H h=>xR r _ H hk h) h) (fun σ h=>xR r _ H hk h) h
theorem Ry{c:COp}{dst:Option Nat}{Hr:ab}{K K':D->ab->Prop}(hk:∀d H,K d H->K' d H)(h:av S c dst σ Hr H K):av S c dst σ Hr H K':=by
 obtain⟨pre,out,hf⟩:=H3 S c dst σ Hr (pF H (c.wid dst))
 have hf:∀H',pF H' (c.wid dst)=pF H (c.wid dst)->∀K,av S c dst σ Hr H' K↔ (pre/\∀d u,out d u->K d (fD H' (c.wid dst) u)):=hf
 rw[hf H rfl]at h ⊢
 exact⟨h.1,fun d u hd=>hk _ _ (h.2 d u hd)⟩
theorem vq:∀ (l:List CI) (σ:Sg) (Hr H:ab) {K K':Sg->ab->Prop},(∀σ H,K σ H->K' σ H)->lw S l σ Hr H K->lw S l σ Hr H K'
 | [],σ,Hr,H,K,K',hk,h=>hk _ _ h
 | .frz t n::r,σ,Hr,H,K,K',hk,h=>vq r σ (bh r Hr) H hk h
 | .op dst g c::r,σ,Hr,H,K,K',hk,h=>C7 (fun σ h=>Ry (fun d H h=>vq r _ Hr H hk h) h) (fun σ h=>vq r _ Hr H hk h) h
theorem vp(c:CC):∀ {K K':Ex->Sg->ab->Prop} (σ:Sg) (H:ab),(∀e σ H,K e σ H->K' e σ H)->vc S c K σ H->vc S c K' σ H:=by
 induction c with
 | skip=>intro K K' σ H hk h;simp only[vc]at h ⊢;exact hk _ _ _ h
 | reg l=>intro K K' σ H hk h;simp only[vc]at h ⊢;exact xR l σ H (fun _ _ h=>hk _ _ _ h) h
 | regd p t=>intro K K' σ H hk h;simp only[vc]at h ⊢;exact vq p σ _ H (fun σ H h=>xR t σ H (fun _ _ h=>hk _ _ _ h) h) h
 | seq a b iha ihb=>
   intro K K' σ H hk h
   simp only[vc]at h ⊢
   refine iha σ H (fun e σ H h=>?_) h
   cases e with
   | norm=>exact ihb σ H hk h
   | ex i=>exact hk _ _ _ h
   | ret=>exact hk _ _ _ h
 | ite c a b iha ihb=>
   intro K K' σ H hk h
   simp only[vc]at h ⊢
   split at h
   ·exact⟨fun e=>iha σ H hk (h.1 e),fun e=>ihb σ H hk (h.2 e)⟩
   ·exact h.elim
 | block id b ih=>
   intro K K' σ H hk h
   simp only[vc]at h ⊢
   refine ih σ H (fun e σ H h=>?_) h
   cases e with
   | norm=>exact hk _ _ _ h
   | ret=>exact hk _ _ _ h
   | ex i=>
     dsimp only at h ⊢
     split at h
     ·rename_i e;rw[if_pos e];exact hk _ _ _ h
     ·rename_i e;rw[if_neg e];exact hk _ _ _ h
 | loop k b ih=>
   intro K K' σ H hk h
   simp only[vc]at h ⊢
   obtain⟨inv,h0,h1⟩:=h
   refine⟨inv,h0,fun x hx=>ih _ _ (fun e σ H h=>?_) (h1 x hx)⟩
   cases e with
   | norm=>exact h
   | ex i=>exact hk _ _ _ h
   | ret=>exact hk _ _ _ h
 | exit id=>intro K K' σ H hk h;simp only[vc]at h ⊢;exact hk _ _ _ h
 | ret=>intro K K' σ H hk h;simp only[vc]at h ⊢;exact hk _ _ _ h
 | cut k c ih=>
   intro K K' σ H hk h
   simp only[vc]at h ⊢
   obtain⟨σ',H',h0,h1⟩:=h
   exact⟨σ',H',h0,ih _ _ hk h1⟩
 | keep ls lh c ih=>intro K K' σ H hk h;simp only[vc]at h ⊢;exact ih _ _ hk h
end
end Go.Gv
