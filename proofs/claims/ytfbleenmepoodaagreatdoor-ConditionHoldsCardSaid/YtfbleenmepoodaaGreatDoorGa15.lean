/- A part of the framework and of the walks: T6b. -/
import Derived.Test.YtfbleenmepoodaaGreatDoorGa14
set_option linter.unusedSimpArgs false
set_option linter.unusedVariables false
set_option linter.unusedSectionVars false
set_option linter.defProp false
namespace Go.Gv
def Spc.mono(s:Spc):uo s.pt:=by
 cases s with
 | none=>exactλ_ _ _ _ _ _ h=>h
 | pure c=>exactλd ds H K K' hk h=>⟨h.1,λr hr=>hk r H (h.2 r hr)⟩
 | gen A h=>exact h
section
variable {S:Nat->Spc}{σ:Sg}{H:aa}
def AM{c:COp}{K K':D->Prop}(hk:∀d,K d->K' d)(h:ah c σ H K):ah c σ H K':=by
 obtain⟨pre,out,hf⟩:=JU c σ H;have hf:∀K,ah c σ H K↔ (pre/\∀d,out d->K d):=hf;rw[hf]at h ⊢;exact⟨h.1,λd hd=>hk d (h.2 d hd)⟩
def Cw{n:Nat}{d:D}{K K':List D->Prop}(hk:∀l,K l->K' l)(h:gi n d H K):gi n d H K':=by
 unfold gi at h ⊢;split at h <;> (try simp only at h ⊢)
 ·exact⟨h.1,hk _ h.2⟩
 ·split at h
  ·exact⟨h.1,h.2.1,hk _ h.2.2⟩
  ·exact h.elim
 ·exact hk _ h
 ·split at h
  ·exact⟨h.1,h.2.1,h.2.2.1,hk _ h.2.2.2⟩
  ·exact h.elim
def On{n:Nat}{d:D}{K K':List D->Prop}(hk:∀l,K l->K' l)(h:ov n d H K):ov n d H K':=by
 unfold ov at h ⊢;split at h
 ·exact⟨h.1,hk _ h.2⟩
 ·exact Cw hk h
theorem LX{o:MOp}{ds:List D}{dst:Option Nat}{K K':D->aa->Prop}(hk:∀d H,K d H->K' d H)(h:jy o ds dst H K):jy o ds dst H K':=by
 have rd:qq o ds H (λd=>K d H)->qq o ds H (λd=>K' d H):=λh=>by
  obtain⟨p,q,hq⟩:=Ni o ds H;exact(hq _).2 ⟨((hq _).1 h).1,λd hd=>hk _ _ (((hq _).1 h).2 d hd)⟩
 unfold jy at h ⊢;split at h
 ·split at h
  ·exactλx=>hk _ _ (h x)
  ·exact h.elim
 ·split at h
  ·exact⟨h.1,h.2.1,h.2.2.1,λl1 k' v' l2 e m=>hk _ _ (h.2.2.2.1 l1 k' v' l2 e m),λe=>hk _ _ (h.2.2.2.2 e)⟩
  ·exact h.elim
 ·split at h
  ·split at h
   ·exactλb=>hk _ _ (h b)
   ·exactλb=>hk _ _ (h b)
   ·unfold QJ at h ⊢;split at h
    ·exact⟨h.1,λb st c hb=>hk _ _ (h.2 b st c hb)⟩
    ·exact h.elim
   ·exact h.elim
  ·exact h.elim
 ·refine⟨h.1,?_⟩;have h:=h.2;split at h
  ·exact⟨h.1,λe=>hk _ _ (h.2.1 e),λl1 e l2 hl=>hk _ _ (h.2.2 l1 e l2 hl)⟩
  ·refine⟨h.1,?_⟩;have h:=h.2;unfold Q9 at h ⊢;split at h
   ·exact⟨h.1,h.2.1,λe=>hk _ _ (h.2.2.1 e),λs h1 h2=>hk _ _ (h.2.2.2 s h1 h2)⟩
   ·exact h.elim
  ·exact h.elim
 ·split at h
  ·exact⟨h.1,h.2.1,h.2.2.1,λi k' v' e m=>hk _ _ (h.2.2.2.1 i k' v' e m),λe=>hk _ _ (h.2.2.2.2 e)⟩
  ·exact h.elim
 ·exact rd h
theorem OD{c:COp}{dst:Option Nat}{K K':D->aa->Prop}(hk:∀d H,K d H->K' d H)(h:aP c dst σ H K):aP c dst σ H K':=by
 by_cases hro:c.isRead=true
 ·have e:∀K,aP c dst σ H K=ah c σ H λd=>K d H:=by
   intro K;cases c <;> first|rfl|(simp[COp.isRead]at hro;done)|skip
   ·rename_i im x;cases im <;> first|rfl|(simp[COp.isRead]at hro)
   ·rename_i mo xs;cases mo <;> first|(simp[COp.isRead,MOp.isRead]at hro;done)|rfl
  rw[e]at h ⊢;exact AM (λd hd=>hk d H hd) h
 ·cases c
  case alloc el z=>
   simp only[aP]at h ⊢;split at h
   ·exactλb=>hk _ _ (h b)
   ·exact h.elim
  case box el im x=>
   cases im with
   | true=>exact absurd rfl hro
   | false=>
     simp only[aP]at h ⊢;split at h
     ·exact⟨h.1,λb=>hk _ _ (h.2 b)⟩
     ·exact h.elim
  case tbx el x=>
   simp only[aP]at h ⊢;split at h
   ·exact⟨h.1,λb=>hk _ _ (h.2 b)⟩
   ·exact h.elim
  case nslice el n=>
   simp only[aP]at h ⊢;split at h
   ·exactλb=>hk _ _ (h b)
   ·exact h.elim
  case mslice el n ps=>
   simp only[aP]at h ⊢;split at h
   ·exact⟨h.1,λb=>hk _ _ (h.2 b)⟩
   ·exact h.elim
  case mkslice el n b agg z l c=>
   simp only[aP]at h ⊢;split at h
   ·split at h
    ·exact⟨h.1,h.2.1,h.2.2.1,h.2.2.2.1,λx=>hk _ _ (h.2.2.2.2 x)⟩
    ·exact h.elim
   ·exact h.elim
  case store rt sz x y=>
   simp only[aP]at h ⊢;refine⟨h.1,h.2.1,?_⟩;have h2:=h.2.2;clear h;split at h2
   ·split at h2
    ·exact⟨h2.1,h2.2.1,hk _ _ h2.2.2⟩
    ·exact h2.elim
   ·split at h2
    ·exact⟨h2.1,h2.2.1,h2.2.2.1,h2.2.2.2.1,h2.2.2.2.2.1,λd hd=>hk _ _ (h2.2.2.2.2.2 d hd)⟩
    ·exact h2.elim
   ·exact h2.elim
  case srange x=>
   simp only[aP]at h ⊢;split at h
   ·exactλb=>hk _ _ (h b)
   ·exact h.elim
  case snext x=>
   simp only[aP]at h ⊢;split at h
   ·obtain⟨rfl,h⟩:=h;refine⟨rfl,?_⟩;split at h
    ·exact⟨h.1,λe=>hk _ _ (h.2.1 e),λe=>hk _ _ (h.2.2 e)⟩
    ·exact h.elim
   ·exact h.elim
  case append rt el n b x y=>
   simp only[aP]at h ⊢;refine On (λl h=>?_) h;split at h
   ·split at h
    ·exact⟨h.1,h.2.1,h.2.2.1,h.2.2.2.1,h.2.2.2.2.1,λv=>hk _ _ (h.2.2.2.2.2 v)⟩
    ·exact h.elim
   ·split at h
    ·exact⟨h.1,h.2.1,λv=>hk _ _ (h.2.2 v)⟩
    ·exact h.elim
   ·split at h
    ·exact⟨h.1,h.2.1,h.2.2.1,h.2.2.2.1,h.2.2.2.2.1,h.2.2.2.2.2.1,h.2.2.2.2.2.2.1,λv=>hk _ _ (h.2.2.2.2.2.2.2 v)⟩
    ·exact h.elim
   ·exact h.elim
  case appmk el n b agg z x c=>
   simp only[aP]at h ⊢;split at h
   ·split at h
    ·exact⟨h.1,h.2.1,h.2.2.1,λv=>hk _ _ (h.2.2.2 v)⟩
    ·exact h.elim
   ·exact h.elim
  case clear n agg z x=>
   simp only[aP]at h ⊢;split at h
   ·split at h
    ·exact⟨h.1,h.2.1,hk _ _ h.2.2⟩
    ·exact h.elim
   ·split at h
    ·exact⟨h.1,h.2.1,h.2.2.1,hk _ _ h.2.2.2⟩
    ·exact h.elim
   ·exact hk _ _ h
   ·exact h.elim
  case copy n x y=>
   simp only[aP]at h ⊢;refine Cw (λl h=>?_) h;split at h
   ·split at h
    ·exact⟨h.1,h.2.1,hk _ _ h.2.2⟩
    ·exact h.elim
   ·split at h
    ·exact⟨h.1,h.2.1,h.2.2.1,hk _ _ h.2.2.2⟩
    ·exact h.elim
   ·exact h.elim
  case m mo xs=>exact LX hk h
  case call f xs=>exact h.elim
  case callv f xs=>exact h.elim
  case callb r f xs=>exact h.elim
  all_goals exact absurd rfl hro
def KG{c:COp}{dst:Option Nat}{K K':D->aa->Prop}(hk:∀d H,K d H->K' d H)(h:aA S c dst σ H K):aA S c dst σ H K':=by
 cases c
 case call f args=>exact(S f).mono _ _ _ _ _ hk h
 case callb r f args=>exact(S f).mono _ _ _ _ _ hk h
 case callv f args=>
  simp only[aA]at h ⊢;split at h
  ·exact(S _).mono _ _ _ _ _ hk h
  ·exact h.elim
 all_goals
  simp only[aA]at h ⊢;exact OD hk h
def Aj:∀ (cs:List D) (H:aa) {K K':List D->aa->Prop},(∀cs H,K cs H->K' cs H)->Bu cs H K->Bu cs H K'
 | [],H,K,K',hk,h=>hk _ _ h
 | c::cs,H,K,K',hk,h=>by
   have other:Bu cs H (λcs' H'=>K (c::cs') H')->Bu cs H (λcs' H'=>K' (c::cs') H'):=λh=>Aj cs H (λ_ _ h=>hk _ _ h) h
   cases c
   case own id x=>
    simp only[Bu]at h ⊢;split at h
    ·exact⟨h.1,Aj cs _ (λ_ _ h=>hk _ _ h) h.2⟩
    ·exact h.elim
   all_goals exact other h
def Mc{t n:Nat}{K K':Sg->aa->Prop}(hk:∀σ H,K σ H->K' σ H)(h:Ft t n σ H K):Ft t n σ H K':=by
 unfold Ft at h ⊢;split at h <;> (try simp only at h ⊢)
 ·split at h
  ·exact⟨h.1,hk _ _ h.2⟩
  ·exact h.elim
 ·split at h
  ·exact⟨h.1,hk _ _ h.2⟩
  ·exact h.elim
 ·exact hk _ _ h
 ·split at h
  ·refine⟨h.1,h.2.1,?_⟩;have h2:=h.2.2;split at h2
   ·rename_i e;rw[if_pos e];exact⟨h2.1,λv=>hk _ _ (h2.2 v)⟩
   ·rename_i e;rw[if_neg e];exact hk _ _ h2
  ·exact h.elim
 ·exact Aj _ _ (λ_ _ h=>hk _ _ h) h
 ·exact hk _ _ h
def yB{g:Option (Nat×Bool)}{yes no yes' no':Sg->Prop}(h1:∀σ,yes σ->yes' σ)(h2:∀σ,no σ->no' σ)(h:iG g σ yes no):iG g σ yes' no':=by
 unfold iG at h ⊢;split at h <;> (try simp only at h ⊢)
 ·exact h1 _ h
 ·split at h
  ·exact⟨λe=>h1 _ (h.1 e),λe=>h2 _ (h.2 e)⟩
  ·exact h2 _ h
  ·exact h.elim
def td:∀ (l:List CI) (σ:Sg) (H:aa) {K K':Sg->aa->Prop},(∀σ H,K σ H->K' σ H)->xH S l σ H K->xH S l σ H K'
 | [],σ,H,K,K',hk,h=>hk _ _ h
 | .frz t n::r,σ,H,K,K',hk,h=>Mc (λσ H h=>td r σ H hk h) h
 | .op dst g c::r,σ,H,K,K',hk,h=>yB (λσ h=>KG (λd H h=>td r _ H hk h) h) (λσ h=>td r _ H hk h) h
def LQ{c:COp}{dst:Option Nat}{Hr:aa}{K K':D->aa->Prop}(hk:∀d H,K d H->K' d H)(h:au S c dst σ Hr H K):au S c dst σ Hr H K':=by
 obtain⟨pre,out,hf⟩:=Dg S c dst σ Hr (nB H (c.wid dst));have hf:∀H',nB H' (c.wid dst)=nB H (c.wid dst)->∀K,au S c dst σ Hr H' K↔ (pre/\∀d u,out d u->K d (fQ H' (c.wid dst) u)):=hf;rw[hf H rfl]at h ⊢;exact⟨h.1,λd u hd=>hk _ _ (h.2 d u hd)⟩
def qH:∀ (l:List CI) (σ:Sg) (Hr H:aa) {K K':Sg->aa->Prop},(∀σ H,K σ H->K' σ H)->gh S l σ Hr H K->gh S l σ Hr H K'
 | [],σ,Hr,H,K,K',hk,h=>hk _ _ h
 | .frz t n::r,σ,Hr,H,K,K',hk,h=>qH r σ (aU r Hr) H hk h
 | .op dst g c::r,σ,Hr,H,K,K',hk,h=>yB (λσ h=>LQ (λd H h=>qH r _ Hr H hk h) h) (λσ h=>qH r _ Hr H hk h) h
theorem qG(c:CC):∀ {K K':Ex->Sg->aa->Prop} (σ:Sg) (H:aa),(∀e σ H,K e σ H->K' e σ H)->vc S c K σ H->vc S c K' σ H:=by
 induction c with
 | skip=>intro K K' σ H hk h;simp only[vc]at h ⊢;exact hk _ _ _ h
 | reg l=>intro K K' σ H hk h;simp only[vc]at h ⊢;exact td l σ H (λ_ _ h=>hk _ _ _ h) h
 | regd p t=>intro K K' σ H hk h;simp only[vc]at h ⊢;exact qH p σ _ H (λσ H h=>td t σ H (λ_ _ h=>hk _ _ _ h) h) h
 | seq a b iha ihb=>
   intro K K' σ H hk h;simp only[vc]at h ⊢;refine iha σ H (λe σ H h=>?_) h;cases e with
   | norm=>exact ihb σ H hk h
   | ex i=>exact hk _ _ _ h
   | ret=>exact hk _ _ _ h
 | ite c a b iha ihb=>
   intro K K' σ H hk h;simp only[vc]at h ⊢;split at h
   ·exact⟨λe=>iha σ H hk (h.1 e),λe=>ihb σ H hk (h.2 e)⟩
   ·exact h.elim
 | block id b ih=>
   intro K K' σ H hk h;simp only[vc]at h ⊢;refine ih σ H (λe σ H h=>?_) h;cases e with
   | norm=>exact hk _ _ _ h
   | ret=>exact hk _ _ _ h
   | ex i=>
     dsimp only at h ⊢;split at h
     ·rename_i e;rw[if_pos e];exact hk _ _ _ h
     ·rename_i e;rw[if_neg e];exact hk _ _ _ h
 | loop k b ih=>
   intro K K' σ H hk h;simp only[vc]at h ⊢;obtain⟨inv,h0,h1⟩:=h;refine⟨inv,h0,λx hx=>ih _ _ (λe σ H h=>?_) (h1 x hx)⟩;cases e with
   | norm=>exact h
   | ex i=>exact hk _ _ _ h
   | ret=>exact hk _ _ _ h
 | exit id=>intro K K' σ H hk h;simp only[vc]at h ⊢;exact hk _ _ _ h
 | ret=>intro K K' σ H hk h;simp only[vc]at h ⊢;exact hk _ _ _ h
 | cut k c ih=>
   intro K K' σ H hk h;simp only[vc]at h ⊢;obtain⟨σ',H',h0,h1⟩:=h;exact⟨σ',H',h0,ih _ _ hk h1⟩
 | keep ls lh c ih=>intro K K' σ H hk h;simp only[vc]at h ⊢;exact ih _ _ hk h
end
end Go.Gv
