/- A part of the framework and of the walks: T50. -/
import Derived.Test.YtfbleenmepoodaaGreatDoorGb24
set_option linter.unusedSimpArgs false
set_option linter.unusedVariables false
set_option linter.unusedSectionVars false
set_option linter.defProp false
namespace Go.Gv
namespace X
abbrev VL:=List (Value×Nat)
abbrev nm(n:Nat):Value:= .int .i64 n
inductive Rep (ρ:VL):D->D->Prop
 | any (d:D):Rep ρ .any d
 | undef:Rep ρ .undef .undef
 | v (x:Value):Rep ρ (.v x) (.v x)
 | agg (cs ds:List D) (hl:cs.length=ds.length) (h:∀ (k:Nat) (c d:D),cs[k]? =some c->ds[k]? =some d->Rep ρ c d):Rep ρ (.agg cs) (.agg ds)
 | tup (cs ds:List D) (hl:cs.length=ds.length) (h:∀ (k:Nat) (c d:D),cs[k]? =some c->ds[k]? =some d->Rep ρ c d):Rep ρ (.tup cs) (.tup ds)
 | list (n:Nat) (cs ds:List D) (hl:cs.length=ds.length) (h:∀ (k:Nat) (c d:D),cs[k]? =some c->ds[k]? =some d->Rep ρ c d):Rep ρ (.list n cs) (.list n ds)
 | cptr (cs ds:List D) (off:Nat) (hl:cs.length=ds.length) (h:∀ (k:Nat) (c d:D),cs[k]? =some c->ds[k]? =some d->Rep ρ c d):Rep ρ (.cptr cs off) (.cptr ds off)
 | clo (f:Nat) (cs ds:List D) (hl:cs.length=ds.length) (h:∀ (k:Nat) (c d:D),cs[k]? =some c->ds[k]? =some d->Rep ρ c d):Rep ρ (.clo f cs) (.clo f ds)
 | own (id n:Nat) (x:Value) (b:Nat) (h:ρ[n]? =some (x,b)):Rep ρ (.own id (nm n)) (.own id x)
 | bptr (id n off:Nat) (x:Value) (b:Nat) (h:ρ[n]? =some (x,b)):Rep ρ (.bptr id n off) (.bptr id b off)
 | eptr (id n w i off:Nat) (x:Value) (b:Nat) (h:ρ[n]? =some (x,b)):Rep ρ (.eptr id (nm n) w i off) (.eptr id x w i off)
 | sub (id n w lo hi:Nat) (x:Value) (b:Nat) (h:ρ[n]? =some (x,b)):Rep ρ (.sub id (nm n) w lo hi) (.sub id x w lo hi)
def RepL(ρ:VL)(cs ds:List D):Prop:=cs.length=ds.length/\∀ (k:Nat) (c d:D),cs[k]? =some c->ds[k]? =some d->Rep ρ c d
inductive RepR (ρ:VL):Res->Res->Prop
 | box (n:Nat) (cs ds:List D) (x:Value) (b:Nat) (h:ρ[n]? =some (x,b)) (hc:RepL ρ cs ds):RepR ρ (.box n cs) (.box b ds)
 | row (n el w:Nat) (cs ds:List D) (x:Value) (b:Nat) (h:ρ[n]? =some (x,b)) (hc:RepL ρ cs ds):RepR ρ (.row (nm n) el w cs) (.row x el w ds)
 | iter (n:Nat) (s:ByteArray) (p:Nat) (x:Value) (b:Nat) (h:ρ[n]? =some (x,b)):RepR ρ (.iter n s p) (.iter b s p)
theorem Rep.mono{ρ ρ':VL}(hp:ρ <+:ρ'){c d:D}(h:Rep ρ c d):Rep ρ' c d:=by
 have up:∀ {n:Nat} {y:Value×Nat},ρ[n]? =some y->ρ'[n]? =some y:=λ{n y} h=>by
  obtain⟨l,rfl⟩:=hp;rw[qmr (qmb.1 h).1];exact h
 induction h with
 | any d=>exact .any d
 | undef=>exact .undef
 | v x=>exact .v x
 | agg cs ds hl _ ih=>exact .agg cs ds hl ih
 | tup cs ds hl _ ih=>exact .tup cs ds hl ih
 | list n cs ds hl _ ih=>exact .list n cs ds hl ih
 | cptr cs ds off hl _ ih=>exact .cptr cs ds off hl ih
 | clo f cs ds hl _ ih=>exact .clo f cs ds hl ih
 | own id n x b h=>exact .own id n x b (up h)
 | bptr id n off x b h=>exact .bptr id n off x b (up h)
 | eptr id n w i off x b h=>exact .eptr id n w i off x b (up h)
 | sub id n w lo hi x b h=>exact .sub id n w lo hi x b (up h)
def RepL.mono{ρ ρ':VL}(hp:ρ <+:ρ'){cs ds:List D}(h:RepL ρ cs ds):RepL ρ' cs ds:=⟨h.1,λk c d h1 h2=>(h.2 k c d h1 h2).mono hp⟩
def RepR.mono{ρ ρ':VL}(hp:ρ <+:ρ'){r s:Res}(h:RepR ρ r s):RepR ρ' r s:=by
 have up:∀ {n:Nat} {y:Value×Nat},ρ[n]? =some y->ρ'[n]? =some y:=λ{n y} h=>by
  obtain⟨l,rfl⟩:=hp;rw[qmr (qmb.1 h).1];exact h
 cases h with
 | box n cs ds x b h hc=>exact .box n cs ds x b (up h) (hc.mono hp)
 | row n el w cs ds x b h hc=>exact .row n el w cs ds x b (up h) (hc.mono hp)
 | iter n s p x b h=>exact .iter n s p x b (up h)
section
variable {ρ:VL}
def RepL.nil:RepL ρ [] []:=⟨rfl,λk c d h=>by simp at h⟩
def RepL.cons{c d:D}{cs ds:List D}(h:Rep ρ c d)(hl:RepL ρ cs ds):RepL ρ (c::cs) (d::ds):=⟨by simp[hl.1],λk a b h1 h2=>by
 cases k with
 | zero=>simp at h1 h2;subst h1;subst h2;exact h
 | succ k=>simp at h1 h2;exact hl.2 k a b h1 h2⟩
def RepL.get{cs ds:List D}(h:RepL ρ cs ds){k:Nat}{c:D}(hc:cs[k]? =some c):∃d,ds[k]? =some d/\Rep ρ c d:=by
 have hk:k < ds.length:=by rw[<-h.1];exact(qmb.1 hc).1
 exact⟨ds[k],qmd hk,h.2 k c _ hc (qmd hk)⟩
def RepL.append{a b c d:List D}(h:RepL ρ a b)(k:RepL ρ c d):RepL ρ (a++c) (b++d):=⟨by simp[h.1,k.1],λi x y h1 h2=>by
 by_cases hi:i < a.length
 ·rw[qmr hi]at h1;rw[qmr (by rw[<-h.1];exact hi)]at h2;exact h.2 i x y h1 h2
 ·rw[qmn (by omega)]at h1;rw[qmn (by rw[<-h.1];omega),<-h.1]at h2;exact k.2 _ x y h1 h2⟩
def RepL.take{a b:List D}(h:RepL ρ a b)(n:Nat):RepL ρ (a.take n) (b.take n):=⟨by simp[h.1],λi x y h1 h2=>by
 rw[qmt]at h1 h2;split at h1
 ·rename_i hi;rw[if_pos hi]at h2;exact h.2 i x y h1 h2
 ·cases h1⟩
def RepL.drop{a b:List D}(h:RepL ρ a b)(n:Nat):RepL ρ (a.drop n) (b.drop n):=⟨by simp[h.1],λi x y h1 h2=>by
 rw[qmO]at h1 h2;exact h.2 _ x y h1 h2⟩
def RepL.set{a b:List D}(h:RepL ρ a b){n:Nat}{c d:D}(hc:Rep ρ c d):RepL ρ (a.set n c) (b.set n d):=⟨by simp[h.1],λi x y h1 h2=>by
 rw[List.getElem?_set]at h1 h2;split at h1
 ·rename_i e;rw[if_pos e]at h2;rw[h.1]at h1;split at h1
  ·rename_i hl;rw[if_pos hl]at h2;cases h1;cases h2;exact hc
  ·cases h1
 ·rename_i e;rw[if_neg e]at h2;exact h.2 i x y h1 h2⟩
def RepL.same:∀ {l:List D},(∀d∈l,Rep ρ d d)->RepL ρ l l
 | [],_=> .nil
 | d::l,h=> .cons (h d (by simp)) (RepL.same λd hd=>h d (by simp[hd]))
def RepL.rep{c d:D}(h:Rep ρ c d):∀n,RepL ρ (List.replicate n c) (List.replicate n d)
 | 0=> .nil
 | n+1=> .cons h (RepL.rep h n)
def IM(x:Value):Rep ρ (mL x) (mL x):=by
 cases x <;> first|exact .v _|exact .any _
def Ep(z:List Value):RepL ρ (z.map mL) (z.map mL):=RepL.same λd hd=>by
 obtain⟨x,_,rfl⟩:=qmo.1 hd;exact IM x
def Rep.kn{c d:D}(h:Rep ρ c d)(hk:c.kn=true):d.kn=true:=by
 cases h <;> first|exact hk|rfl|(cases hk)
theorem Rep.cells{c d:D}(h:Rep ρ c d)(hk:c.kn=true):RepL ρ c.cells d.cells:=by
 cases h with
 | agg cs ds hl h=>exact⟨hl,h⟩
 | any d=>cases hk
 | undef=>exact .cons .undef .nil
 | v x=>exact .cons (.v x) .nil
 | tup cs ds hl h=>exact .cons (.tup cs ds hl h) .nil
 | list n cs ds hl h=>exact .cons (.list n cs ds hl h) .nil
 | cptr cs ds off hl h=>exact .cons (.cptr cs ds off hl h) .nil
 | clo f cs ds hl h=>exact .cons (.clo f cs ds hl h) .nil
 | own id n x b h=>exact .cons (.own id n x b h) .nil
 | bptr id n off x b h=>exact .cons (.bptr id n off x b h) .nil
 | eptr id n w i off x b h=>exact .cons (.eptr id n w i off x b h) .nil
 | sub id n w lo hi x b h=>exact .cons (.sub id n w lo hi x b h) .nil
def IL{cs ds:List D}(h:RepL ρ cs ds)(agg:Bool)(sz off:Nat):Rep ρ (CV agg sz cs off) (CV agg sz ds off):=by
 unfold CV;split
 ·exact .agg _ _ ((h.drop off).take sz).1 ((h.drop off).take sz).2
 ·cases hc:cs[off]? with
  | none=>exact .any _
  | some c=>
    obtain⟨d,hd,hr⟩:=h.get hc;rw[hd];exact hr
def Bu{a b c d:List D}(h:RepL ρ a b)(k:RepL ρ c d)(off:Nat):RepL ρ (setAt a off c) (setAt b off d):=by
 unfold setAt;rw[<-k.1];exact((h.take off).append k).append (h.drop _)
def WK{c d:D}(h:Rep ρ c d){p:IntKind×Int}(hp:iY c=some p):d=c:=by
 cases h <;> first|rfl|(simp[iY]at hp)
end
inductive Tr (α:Type) where
 | e
 | n (v:Option α) (l r:Tr α)
namespace Tr
variable {α:Type}
noncomputable def get(t:Tr α):Nat->Option α:=Tr.rec (motive:=λ_=>Nat->Option α) (λ_=>none)
 (λv _ _ gl gr k=>Bool.rec (Bool.rec (gr (Nat.div (Nat.sub k 2) 2)) (gl (Nat.div (Nat.sub k 1) 2)) (Nat.beq (Nat.mod k 2) 1)) v (Nat.beq k 0)) t
def val:Tr α->Option α
 | .e=>none
 | .n v _ _=>v
def lf:Tr α->Tr α
 | .e=> .e
 | .n _ l _=>l
def rt:Tr α->Tr α
 | .e=> .e
 | .n _ _ r=>r
noncomputable def Lk(d:Nat):Tr α->Nat->Option α->Tr α:=Nat.rec (motive:=λ_=>Tr α->Nat->Option α->Tr α) (λ_ _ _=> .e)
 (λ_ ih t k v=>Bool.rec (Bool.rec (.n t.val t.lf (ih t.rt (Nat.div (Nat.sub k 2) 2) v)) (.n t.val (ih t.lf (Nat.div (Nat.sub k 1) 2) v) t.rt) (Nat.beq (Nat.mod k 2) 1)) (.n v t.lf t.rt) (Nat.beq k 0)) d
noncomputable def set(t:Tr α)(k:Nat)(v:α):Tr α:=Lk 14 t k (some v)
noncomputable def del(t:Tr α)(k:Nat):Tr α:=Lk 14 t k none
noncomputable def map(f:α->α)(t:Tr α):Tr α:=Tr.rec (motive:=λ_=>Tr α) .e (λv _ _ l r=> .n (Option.rec none (λa=>some (f a)) v) l r) t
def get_e(k:Nat):get (.e:Tr α) k=none:=rfl
def get_n(v:Option α)(l r:Tr α)(k:Nat):get (.n v l r) k=if k=0 then v else if k % 2=1 then get l ((k -1) /2)else get r ((k -2) /2):=by
 show Bool.rec (motive:=λ_=>Option α) (Bool.rec (motive:=λ_=>Option α) (get r (Nat.div (Nat.sub k 2) 2)) (get l (Nat.div (Nat.sub k 1) 2)) (Nat.beq (Nat.mod k 2) 1)) v (Nat.beq k 0)=_;cases h:Nat.beq k 0 with
 | true=>rw[if_pos (Nat.eq_of_beq_eq_true h)]
 | false=>
   rw[if_neg (Nat.ne_of_beq_eq_false h)];cases h2:Nat.beq (Nat.mod k 2) 1 with
   | true=>rw[if_pos (show k % 2=1 from Nat.eq_of_beq_eq_true h2)];rfl
   | false=>rw[if_neg (show ¬k % 2=1 from Nat.ne_of_beq_eq_false h2)];rfl
def Rn(t:Tr α)(k:Nat):get t k=if k=0 then t.val else if k % 2=1 then get t.lf ((k -1) /2)else get t.rt ((k -2) /2):=by
 cases t with
 | e=>simp[get_e,val,lf,rt]
 | n v l r=>exact get_n v l r k
theorem ZC(d:Nat)(t:Tr α)(k:Nat)(v:Option α):Lk (d+1) t k v=if k=0 then .n v t.lf t.rt else if k % 2=1 then .n t.val (Lk d t.lf ((k -1) /2) v) t.rt else .n t.val t.lf (Lk d t.rt ((k -2) /2) v):=by
 show Bool.rec (motive:=λ_=>Tr α) (Bool.rec (motive:=λ_=>Tr α) (Tr.n t.val t.lf (Lk d t.rt (Nat.div (Nat.sub k 2) 2) v)) (.n t.val (Lk d t.lf (Nat.div (Nat.sub k 1) 2) v) t.rt) (Nat.beq (Nat.mod k 2) 1)) (.n v t.lf t.rt) (Nat.beq k 0)=_;cases h:Nat.beq k 0 with
 | true=>rw[if_pos (Nat.eq_of_beq_eq_true h)]
 | false=>
   rw[if_neg (Nat.ne_of_beq_eq_false h)];cases h2:Nat.beq (Nat.mod k 2) 1 with
   | true=>rw[if_pos (show k % 2=1 from Nat.eq_of_beq_eq_true h2)];rfl
   | false=>rw[if_neg (show ¬k % 2=1 from Nat.ne_of_beq_eq_false h2)];rfl
theorem Ap{v:Option α} :∀ (d:Nat) (t:Tr α) (k j:Nat) (r:α),get (Lk d t k v) j=some r->(j=k/\v=some r)\/(j≠k/\get t j=some r)
 | 0,t,k,j,r,h=>by cases h
 | d+1,t,k,j,r,h=>by
   rw[ZC]at h;rw[Rn t j];split at h
   ·rename_i hk;rw[get_n]at h;split at h
    ·rename_i hj;exact .inl ⟨by omega,h⟩
    ·rename_i hj;rw[if_neg hj];exact .inr ⟨by omega,h⟩
   ·split at h
    ·rename_i hk hk2;rw[get_n]at h;split at h
     ·rename_i hj;rw[if_pos hj];exact .inr ⟨by omega,h⟩
     ·rename_i hj;rw[if_neg hj];split at h
      ·rename_i hj2;rw[if_pos hj2];rcases Ap d _ _ _ _ h with⟨e,hv⟩|⟨e,hg⟩
       ·exact .inl ⟨by omega,hv⟩
       ·exact .inr ⟨λe2=>e (by rw[e2]),hg⟩
      ·rename_i hj2;rw[if_neg hj2];exact .inr ⟨λe2=>hj2 (by rw[e2];exact hk2),h⟩
    ·rename_i hk hk2;rw[get_n]at h;split at h
     ·rename_i hj;rw[if_pos hj];exact .inr ⟨by omega,h⟩
     ·rename_i hj;rw[if_neg hj];split at h
      ·rename_i hj2;rw[if_pos hj2];exact .inr ⟨λe2=>hk2 (by rw[<-e2];exact hj2),h⟩
      ·rename_i hj2;rw[if_neg hj2];rcases Ap d _ _ _ _ h with⟨e,hv⟩|⟨e,hg⟩
       ·exact .inl ⟨by omega,hv⟩
       ·exact .inr ⟨λe2=>e (by rw[e2]),hg⟩
def get_set{t:Tr α}{k j:Nat}{v r:α}(h:get (set t k v) j=some r):(j=k/\r=v)\/(j≠k/\get t j=some r):=
 (Ap 14 t k j r h).imp (λh=>⟨h.1,by have:=h.2;simpa using this.symm⟩) id
def get_del{t:Tr α}{k j:Nat}{r:α}(h:get (del t k) j=some r):j≠k/\get t j=some r:=by
 rcases Ap 14 t k j r h with⟨_,h⟩|h
 ·cases h
 ·exact h
def get_map(f:α->α):∀ (t:Tr α) (k:Nat),get (map f t) k=(get t k).map f
 | .e,k=>rfl
 | .n v l r,k=>by
   show get (.n (Option.rec none (λa=>some (f a)) v) (map f l) (map f r)) k=_;rw[get_n,get_n];split
   ·cases v <;> rfl
   ·split
    ·exact get_map f l _
    ·exact get_map f r _
end Tr
abbrev HE:=Tr Res
def HRep(ρ:VL)(he:HE)(H:ab):Prop:=∀i r,he.get i=some r->∃r',H i=some r'/\RepR ρ r r'
def SRep(ρ:VL)(σe σ:Sg):Prop:=∀t,Rep ρ (σe t) (σ t)
section
variable {ρ:VL}{σe σ:Sg}{he:HE}{H:ab}
def HRep.mono{ρ':VL}(hp:ρ <+:ρ')(h:HRep ρ he H):HRep ρ' he H:=λi r hi=>by
 obtain⟨r',h1,h2⟩:=h i r hi;exact⟨r',h1,h2.mono hp⟩
def HRep.set{r r':Res}{i:Nat}(h:HRep ρ he H)(hr:RepR ρ r r'):HRep ρ (he.set i r) (ai H i (some r')):=λj s hj=>by
 unfold ai;rcases Tr.get_set hj with⟨rfl,rfl⟩|⟨e,hg⟩
 ·exact⟨r',by rw[if_pos rfl],hr⟩
 ·rw[if_neg e];exact h j s hg
def aL(h:SRep ρ σe σ)(x:Operand):Rep ρ (ev σe x) (ev σ x):=by
 cases x with
 | tmp t=>exact h t
 | const x=>exact IM x
 | global g=>exact .v _
 | func f=>exact .clo _ _ _ rfl (λk c d h=>by simp at h)
def sX(h:SRep ρ σe σ)(l:List Operand):RepL ρ (l.map (ev σe)) (l.map (ev σ)):=by
 induction l with
 | nil=>exact .nil
 | cons x l ih=>exact .cons (aL h x) ih
end
def OS:Value->Value->Bool
 | .int _ a, .int _ b=>decide (a=b)
 | _,_=>false
def xN(n:Nat):List D->Bool
 | []=>true
 | d::r=>d.kn && Nat.beq d.cells.length n && xN n r
def NZ:IntKind->Int->Bool
 | .i64,n=>decide (-9223372036854775808<=n) && decide (n<=9223372036854775807)
 | .i32,n=>decide (-2147483648<=n) && decide (n<=2147483647)
 | .i16,n=>decide (-32768<=n) && decide (n<=32767)
 | .i8,n=>decide (-128<=n) && decide (n<=127)
 | .u64,n=>decide (0<=n) && decide (n<=18446744073709551615)
 | .u32,n=>decide (0<=n) && decide (n<=4294967295)
 | .u16,n=>decide (0<=n) && decide (n<=65535)
 | .u8,n=>decide (0<=n) && decide (n<=255)
def Jt{k:IntKind}{n:Int}(h:NZ k n=true):InR k n:=by
 cases k <;> simpa [NZ,InR]using h
def qaM(op:BinOp)(k:IntKind)(a b:Int):Option Int:=match op with
 | .add=>if NZ k (a+b)then some (a+b)else none
 | .sub=>if NZ k (a -b)then some (a -b)else none
 | .mul=>if NZ k (a*b)then some (a*b)else none
 | .quo=>if decide (b≠0) && NZ k (a.tdiv b)then some (a.tdiv b)else none
 | .rem=>if b=0 then none else some (a.tmod b)
 | .and=>some (MY k a b)
 | .or=>some (qbo k a b)
 | .shl=>if 0<=b then some (It k a b)else none
 | .shr=>if 0<=b then some (QD k a b)else none
 | _=>none
def qcW(op:BinOp)(k k':IntKind):Bool:=match op with
 | .shl| .shr=>true
 | _=>decide (k=k')
def J3(σ:Sg):List (Nat×Nat×Operand)->List D->Option (List D)
 | [],cs=>some cs
 | (off,sz,x)::r,cs=>if(ev σ x).kn && Nat.beq (ev σ x).cells.length sz then J3 σ r (setAt cs off (ev σ x).cells)else none
def UV(lo hi:Option (Option (IntKind×Int)))(len:Nat):Option (Nat×Nat):=match lo,hi with
 | none,none=>some (0,len)
 | some (some (_,l)),none=>if decide (0<=l) && decide (l<=len)then some (l.toNat,len)else none
 | none,some (some (_,h))=>if decide (0<=h) && decide (h<=len)then some (0,h.toNat)else none
 | some (some (_,l)),some (some (_,h))=>if decide (0<=l) && decide (l<=h) && decide (h<=len)then some (l.toNat,h.toNat)else none
 | _,_=>none
def gj(c x y:D):Option D:=match c with
 | .v (.bool true)=>some x
 | .v (.bool false)=>some y
 | _=>none
def nO(d:D):Option D:=if d.kn then some (.cptr d.cells 0)else none
def Di(n:Nat)(ds:List D):Option D:=if xN n ds then some (.list n ds)else none
noncomputable def gk(agg:Bool)(sz:Nat)(he:HE)(d:D):Option D:=match d with
 | .cptr cs off=>if off+sz<=cs.length then some (CV agg sz cs off)else none
 | .bptr id b off=>match he.get id with
   | some (.box b' cs)=>if Nat.beq b' b && decide (off+sz<=cs.length)then some (CV agg sz cs off)else none
   | _=>none
 | .eptr id x n i off=>match he.get id with
   | some (.row x' _ n' es)=>if OS x' x && Nat.beq n' n && decide (off+sz<=n)then(match es[i]? with
     | some d=>if d.kn then some (CV agg sz d.cells off)else none
     | none=>none)else none
   | _=>none
 | _=>none
def nH(d:D):Option D:=match d with
 | .cptr cs off=>some (.cptr cs off)
 | .bptr id b off=>some (.bptr id b off)
 | .eptr id x n i off=>some (.eptr id x n i off)
 | _=>none
def nP(op:BinOp)(x y:D):Option D:=match x,y with
 | .v (.int k a), .v (.int k' b)=>if qcW op k k' then(qaM op k a b).map λn=> .v (.int k n)else none
 | _,_=>none
def nM(op:BinOp)(x y:D):Option D:=match x,y with
 | .v (.int k a), .v (.int k' b)=>if k=k' then(JX op a b).map λt=> .v (.bool t)else none
 | .v (.string a), .v (.string b)=>(MF op a b).map λt=> .v (.bool t)
 | _,_=>none
def nN(x y:D):Option D:=match x,y with
 | .v (.string a), .v (.string b)=>if a.size+b.size<=1000000000 then some (.v (.string (a++b)))else none
 | _,_=>none
def nG(x:D):Option D:=match x with
 | .v (.bool b)=>some (.v (.bool (!b)))
 | _=>none
def nI(x:D):Option D:=match x with
 | .v (.int k n)=>if NZ k (0 -n)then some (.v (.int k (0 -n)))else none
 | _=>none
def gm(k:IntKind)(x:D):Option D:=match x with
 | .v (.int _ n)=>some (.v (.int k (k.wrap n)))
 | _=>none
noncomputable def dC(n:Nat)(he:HE)(lo hi:Option (Option (IntKind×Int)))(x:D):Option D:=match x with
 | .list n' es=>if Nat.beq n' n then(UV lo hi es.length).map λp=> .list n ((es.take p.2).drop p.1)else none
 | .own id x=>match he.get id with
   | some (.row x' _ n' es)=>if OS x' x && Nat.beq n' n then(UV lo hi es.length).map λp=> .sub id x n p.1 p.2 else none
   | _=>none
 | _=>none
def Da(lo hi:Option (Option (IntKind×Int)))(x:D):Option D:=match x with
 | .v (.string s)=>(UV lo hi s.size).map λp=> .v (.string (s.extract p.1 p.2))
 | _=>none
def Dh(off:Nat)(x:D):Option D:=match x with
 | .cptr cs o=>some (.cptr cs (o+off))
 | .bptr id b o=>some (.bptr id b (o+off))
 | .eptr id x n i o=>some (.eptr id x n i (o+off))
 | _=>none
def nK(agg:Bool)(sz off:Nat)(x:D):Option D:=match x with
 | .agg cs=>if off+sz<=cs.length then some (CV agg sz cs off)else none
 | _=>none
noncomputable def Dg(n:Nat)(he:HE)(x i:D):Option D:=match i with
 | .v (.int _ k)=>match x with
   | .list n' es=>if Nat.beq n' n && decide (0<=k)then(match es[k.toNat]? with
     | some d=>if d.kn then some (.cptr d.cells 0)else none
     | none=>none)else none
   | .own id x=>match he.get id with
     | some (.row x' _ n' es)=>if OS x' x && Nat.beq n' n && decide (0<=k) && decide (k < es.length)then some (.eptr id x n k.toNat 0)else none
     | _=>none
   | .sub id x n' lo hi=>if Nat.beq n' n && decide (0<=k) && decide (k < (hi -lo:Nat))then some (.eptr id x n (lo+k.toNat) 0)else none
   | _=>none
 | _=>none
def Dd(x i:D):Option D:=match i with
 | .v (.int _ k)=>match x with
   | .v (.string s)=>if decide (0<=k)then(s.data[k.toNat]?).map λc=> .v (.int .u8 c.toNat)else none
   | _=>none
 | _=>none
def nL(x:D)(i:Nat):Option D:=match x with
 | .tup ds=>ds[i]?
 | _=>none
noncomputable def nJ(he:HE)(x:D):Option D:=match x with
 | .list _ es=>some (.v (.int .i64 es.length))
 | .own id x=>match he.get id with
   | some (.row x' _ _ es)=>if OS x' x then some (.v (.int .i64 es.length))else none
   | _=>none
 | .v (.slice _ n _)=>some (.v (.int .i64 n))
 | .sub _ _ _ lo hi=>some (.v (.int .i64 (hi -lo:Nat)))
 | _=>none
def Dc(x:D):Option D:=match x with
 | .v (.string s)=>some (.v (.int .i64 s.size))
 | _=>none
def De(x:D):Option D:=match x with
 | .v (.int _ n)=>some (.v (.string (Utf8.encode n)))
 | _=>none
def Db(x:D):Option D:=match x with
 | .v (.string s)=>if s.size<=1000000000 then some (.list 1 ((Conv.runesFrom s s.size 0 #[]).toList.map D.v))else none
 | _=>none
def Cy(x:D):Option D:=match x with
 | .v (.string s)=>some (.list 1 (s.data.toList.map λc=> .v (.int .u8 c.toNat)))
 | _=>none
def Df(mx:Bool)(x y:D):Option D:=match x,y with
 | .v (.int k a), .v (.int k' b)=>if k=k' then some (.v (.int k (if mx then max a b else min a b)))else none
 | _,_=>none
noncomputable def cd(c:COp)(σ:Sg)(he:HE):Option D:=match c with
 | .mv x=>some (ev σ x)
 | .pick c x y=>gj (ev σ c) (ev σ x) (ev σ y)
 | .box _ true x=>nO (ev σ x)
 | .build z ps=>(J3 σ ps (z.map mL)).map .agg
 | .bslice _ n ps=>Di n (ps.map (ev σ))
 | .load agg sz x=>gk agg sz he (ev σ x)
 | .nilck x=>nH (ev σ x)
 | .arith op x y=>nP op (ev σ x) (ev σ y)
 | .cmp op x y=>nM op (ev σ x) (ev σ y)
 | .eql neg agg ks x y=>(UD agg ks (ev σ x) (ev σ y)).map λp=> .v (.bool (if neg then !p else p))
 | .scat x y=>nN (ev σ x) (ev σ y)
 | .not x=>nG (ev σ x)
 | .neg x=>nI (ev σ x)
 | .conv k x=>gm k (ev σ x)
 | .clo f caps=>some (.clo f (caps.map (ev σ)))
 | .slice n x lo hi=>dC n he (lo.map λo=>iY (ev σ o)) (hi.map λo=>iY (ev σ o)) (ev σ x)
 | .sslice x lo hi=>Da (lo.map λo=>iY (ev σ o)) (hi.map λo=>iY (ev σ o)) (ev σ x)
 | .faddr off x=>Dh off (ev σ x)
 | .fld agg sz off x=>nK agg sz off (ev σ x)
 | .iaddr n x i=>Dg n he (ev σ x) (ev σ i)
 | .sidx x i=>Dd (ev σ x) (ev σ i)
 | .ext x i=>nL (ev σ x) i
 | .len x=>nJ he (ev σ x)
 | .slen x=>Dc (ev σ x)
 | .rstr x=>De (ev σ x)
 | .srunes x=>Db (ev σ x)
 | .sbytes x=>Cy (ev σ x)
 | .mm mx [x,y]=>Df mx (ev σ x) (ev σ y)
 | _=>none
section
variable {ρ:VL}{σe σ:Sg}{he:HE}{H:ab}
def vW{n:Nat} :∀ {cs ds:List D},RepL ρ cs ds->xN n cs=true->gw n ds
 | [], [],_,_=>trivial
 | [],_::_,h,_=>by have:=h.1;simp at this
 | _::_, [],h,_=>by have:=h.1;simp at this
 | c::cs,d::ds,h,hp=>by
   simp only[xN,qmf]at hp;have h0:=h.2 0 c d rfl rfl;have ht:RepL ρ cs ds:=⟨by have:=h.1;simpa using this,λk a b h1 h2=>h.2 (k+1) a b (by simpa using h1) (by simpa using h2)⟩
   refine⟨h0.kn hp.1.1,?_,vW ht hp.2⟩;rw[<- (h0.cells hp.1.1).1];exact Nat.eq_of_beq_eq_true hp.1.2
def HC(hσ:SRep ρ σe σ){K:List D->Prop} :∀ (ps:List (Nat×Nat×Operand)) (cs ds out:List D),RepL ρ cs ds->J3 σe ps cs=some out->(∀ds',RepL ρ out ds'->K ds')->gF σ ps ds K
 | [],cs,ds,out,h,he,hK=>by cases he;exact hK ds h
 | (off,sz,x)::r,cs,ds,out,h,he,hK=>by
  simp only[J3]at he;split at he
  ·rename_i hc;simp only[qmf]at hc;have hx:=aL hσ x;refine⟨hx.kn hc.1,?_,HC hσ r _ _ out (Bu h (hx.cells hc.1) off) he hK⟩;rw[<- (hx.cells hc.1).1];exact Nat.eq_of_beq_eq_true hc.2
  ·cases he
def J6(hσ:SRep ρ σe σ){o:Operand}{p:IntKind×Int}(h:iY (ev σe o)=some p):iY (ev σ o)=some p:=by rw[WK (aL hσ o) h];exact h
theorem JS(hσ:SRep ρ σe σ){lo hi:Option Operand}{len:Nat}{p:Nat×Nat}(h:UV (lo.map λo=>iY (ev σe o)) (hi.map λo=>iY (ev σe o)) len=some p){K:Nat->Nat->Prop}(hK:K p.1 p.2):
 mK (lo.map λo=>iY (ev σ o)) (hi.map λo=>iY (ev σ o)) len K:=by
 have key:∀ (o:Option Operand),(∃q,(o.map λo=>iY (ev σe o))=some (some q))\/(o.map λo=>iY (ev σe o))=none->(o.map λo=>iY (ev σ o))=o.map λo=>iY (ev σe o):=λo h=>by
  cases o with
  | none=>rfl
  | some o=>
    rcases h with⟨q,h⟩|h
    ·simp only[qnN,qmp]at h ⊢;rw[J6 hσ h,h]
    ·cases h
 unfold UV at h;split at h
 ·rename_i e1 e2;rw[key lo (.inr e1),key hi (.inr e2),e1,e2];cases h;exact hK
 ·rename_i k l e1 e2;rw[key lo (.inl ⟨_,e1⟩),key hi (.inr e2),e1,e2];split at h
  ·rename_i hc;simp at hc;cases h;exact⟨hc.1,hc.2,hK⟩
  ·cases h
 ·rename_i k l e1 e2;rw[key lo (.inr e1),key hi (.inl ⟨_,e2⟩),e1,e2];split at h
  ·rename_i hc;simp at hc;cases h;exact⟨hc.1,hc.2,hK⟩
  ·cases h
 ·rename_i k l k' l' e1 e2;rw[key lo (.inl ⟨_,e1⟩),key hi (.inl ⟨_,e2⟩),e1,e2];split at h
  ·rename_i hc;simp at hc;cases h;exact⟨hc.1.1,hc.1.2,hc.2,hK⟩
  ·cases h
 ·cases h
def zq{n m:Nat}{x:Value}{b:Nat}{y:Value}{c:Nat}(h:OS (nm n) (nm m)=true)(h1:ρ[n]? =some (x,b))(h2:ρ[m]? =some (y,c)):x=y:=by
 simp only[OS,decide_eq_true_eq]at h;have:n=m:=by omega
 subst this;rw[h1]at h2;cases h2;rfl
def qaL{op:BinOp}{k:IntKind}{a b n:Int}(h:qaM op k a b=some n){K:D->Prop}(hK:K (.v (.int k n))):eL op k a b K:=by
 cases op <;> simp only[qaM]at h <;> try (cases h;done)
 all_goals first
  | (split at h
     ·rename_i hc
      first
      | (cases h;exact⟨Jt hc,hK⟩)
      | (cases h;exact⟨hc,hK⟩)
      | (simp only[qmf,decide_eq_true_eq]at hc;cases h;exact⟨hc.1,Jt hc.2,hK⟩)
      | (cases h;done)
     ·rename_i hc
      first
      | (cases h;done)
      | (cases h;exact⟨hc,hK⟩))
  | (cases h;exact hK)
def Xo{op:BinOp}{k k':IntKind}(h:qcW op k k'=true):Q9 op k k':=by
 cases op <;> first|trivial|exact(of_decide_eq_true (p:=k=k') h)
def PG{k:M4}{a b c d:D}(h1:Rep ρ a c)(h2:Rep ρ b d){p:Bool}(h:Om k a b=some p):Om k c d=some p:=by
 cases h1 <;> cases h2 <;> first|exact h|(cases k <;> simp[Om,iY,qeu,qev]at h)
theorem PE:∀ {ks:List M4} {az bs cs ds:List D},RepL ρ az cs->RepL ρ bs ds->∀ {p:Bool},Oj ks az bs=some p->Oj ks cs ds=some p
 | [],az,bs,cs,ds,h1,h2,p,h=>by
   have e1:=h1.1;have e2:=h2.1;cases az <;> cases cs <;> simp at e1 <;> cases bs <;> cases ds <;> simp at e2 <;> first|exact h|(simp[Oj]at h)
 | k::ks,az,bs,cs,ds,h1,h2,p,h=>by
   have e1:=h1.1;have e2:=h2.1;cases az with
   | nil=>simp[Oj]at h
   | cons a az=>
     cases bs with
     | nil=>simp[Oj]at h
     | cons b bs=>
       cases cs with
       | nil=>simp at e1
       | cons c cs=>
         cases ds with
         | nil=>simp at e2
         | cons d ds=>
           simp only[Oj,List.head?_cons,qmx,List.tail_cons,ql9]at h ⊢;obtain⟨q,hq,r,hr,h⟩:=h;have t1:RepL ρ az cs:=⟨by simpa using e1,λk x y a b=>h1.2 (k+1) x y (by simpa using a) (by simpa using b)⟩
           have t2:RepL ρ bs ds:=⟨by simpa using e2,λk x y a b=>h2.2 (k+1) x y (by simpa using a) (by simpa using b)⟩
           exact⟨q,PG (h1.2 0 a c rfl rfl) (h2.2 0 b d rfl rfl) hq,r,PE t1 t2 hr,h⟩
def XT{agg:Bool}{ks:List M4}{a b c d:D}(h1:Rep ρ a c)(h2:Rep ρ b d){p:Bool}(h:UD agg ks a b=some p):UD agg ks c d=some p:=by
 unfold UD at h ⊢;split at h
 ·rename_i e;rw[if_pos e];cases h1 <;> try (simp[mO]at h;done)
  rename_i az cs l1 g1;cases h2 <;> try (simp[mO]at h;done)
  rename_i bs ds l2 g2;exact PE ⟨l1,g1⟩ ⟨l2,g2⟩ h
 ·rename_i e;rw[if_neg e];split at h
  ·exact PG h1 h2 h
  ·cases h
theorem BM(hσ:SRep ρ σe σ)(hH:HRep ρ he H){c:COp}{d:D}(h:cd c σe he=some d){K:D->Prop}(hK:∀d',Rep ρ d d'->K d'):ah c σ H K:=by
 cases c <;> try (cases h;done)
 case mv x=>cases h;exact hK _ (aL hσ x)
 case pick c x y=>
  simp only[cd,gj,nO,Di,gk,nH,nP,nM,nN,nG,nI,gm,dC,Da,Dh,nK,Dg,Dd,nL,nJ,Dc,De,Db,Cy,Df]at h;simp only[ah];have hc:=aL hσ c;generalize ev σe c=a at h hc;generalize ev σ c=b at hc;cases hc <;> try (cases h;done)
  rename_i v;cases v <;> try (cases h;done)
  rename_i t;cases t
  ·cases h;exact⟨λe=>(by cases e),λ_=>hK _ (aL hσ y)⟩
  ·cases h;exact⟨λ_=>hK _ (aL hσ x),λe=>(by cases e)⟩
 case box el im x=>
  cases im
  ·cases h
  ·simp only[cd,gj,nO,Di,gk,nH,nP,nM,nN,nG,nI,gm,dC,Da,Dh,nK,Dg,Dd,nL,nJ,Dc,De,Db,Cy,Df]at h;split at h
   ·rename_i hk;cases h;have hx:=aL hσ x;exact⟨hx.kn hk,hK _ (.cptr _ _ _ (hx.cells hk).1 (hx.cells hk).2)⟩
   ·cases h
 case build z ps=>
  simp only[cd,qmi]at h;obtain⟨cs,h,rfl⟩:=h;exact HC hσ ps _ _ cs (Ep z) h λds hd=>hK _ (.agg _ _ hd.1 hd.2)
 case bslice el n ps=>
  simp only[cd,gj,nO,Di,gk,nH,nP,nM,nN,nG,nI,gm,dC,Da,Dh,nK,Dg,Dd,nL,nJ,Dc,De,Db,Cy,Df]at h;split at h
  ·rename_i hp;cases h;have hr:=sX hσ ps;exact⟨vW hr hp,hK _ (.list _ _ _ hr.1 hr.2)⟩
  ·cases h
 case load agg sz x=>
  simp only[cd,gj,nO,Di,gk,nH,nP,nM,nN,nG,nI,gm,dC,Da,Dh,nK,Dg,Dd,nL,nJ,Dc,De,Db,Cy,Df]at h;simp only[ah];have hx:=aL hσ x;generalize ev σe x=a at h hx;generalize ev σ x=b at hx;cases hx <;> try (cases h;done)
  ·rename_i cs ds off hl hc;dsimp only at h ⊢;split at h
   ·rename_i hb;cases h;exact⟨by rw[<-hl];exact hb,hK _ (IL ⟨hl,hc⟩ _ _ _)⟩
   ·cases h
  ·rename_i id n off x b hn;dsimp only at h ⊢;split at h
   ·rename_i b' cs hg;split at h
    ·rename_i hb;simp only[qmf,decide_eq_true_eq]at hb;obtain⟨r',h1,h2⟩:=hH _ _ hg;cases h;rw[h1];cases h2 with
     | box n' cs ds x' b2 hn' hc=>
       have e:=Nat.eq_of_beq_eq_true hb.1;subst e;rw[hn]at hn';cases hn';exact⟨rfl,by rw[<-hc.1];exact hb.2,hK _ (IL hc _ _ _)⟩
    ·cases h
   ·cases h
  ·rename_i id n w i off x b hn;dsimp only at h ⊢;split at h
   ·rename_i x' el n' es hg;split at h
    ·rename_i hb;simp only[qmf,decide_eq_true_eq]at hb;obtain⟨r',h1,h2⟩:=hH _ _ hg;rw[h1];cases h2 with
     | row m el w' cs ds y b2 hm hc=>
       have e:=Nat.eq_of_beq_eq_true hb.1.2;subst e;have ex:=zq hb.1.1 hm hn;subst ex;split at h
       ·rename_i d0 hd0;split at h
        ·rename_i hk;cases h;obtain⟨d1,hd1,hr⟩:=hc.get hd0;refine⟨rfl,rfl,hb.2,(qmb.1 hd1).1,λd hd=>?_⟩;rw[hd1]at hd;cases hd;exact hK _ (IL (hr.cells hk) _ _ _)
        ·cases h
       ·cases h
    ·cases h
   ·cases h
 case nilck x=>
  simp only[cd,gj,nO,Di,gk,nH,nP,nM,nN,nG,nI,gm,dC,Da,Dh,nK,Dg,Dd,nL,nJ,Dc,De,Db,Cy,Df]at h;simp only[ah];have hx:=aL hσ x;generalize ev σe x=a at h hx;generalize ev σ x=b at hx;cases hx <;> try (cases h;done)
  ·rename_i cs ds off hl hc;cases h;exact hK _ (.cptr _ _ _ hl hc)
  ·rename_i hn;cases h;exact hK _ (.bptr _ _ _ _ _ hn)
  ·rename_i hn;cases h;exact hK _ (.eptr _ _ _ _ _ _ _ hn)
 case arith op x y=>
  simp only[cd,gj,nO,Di,gk,nH,nP,nM,nN,nG,nI,gm,dC,Da,Dh,nK,Dg,Dd,nL,nJ,Dc,De,Db,Cy,Df]at h;simp only[ah];have hx:=aL hσ x;have hy:=aL hσ y;generalize ev σe x=a at h hx;generalize ev σ x=b at hx;generalize ev σe y=a' at h hy;generalize ev σ y=b' at hy;cases hx <;> try (cases h;done)
  rename_i v;cases v <;> try (cases h;done)
  cases hy <;> try (cases h;done)
  rename_i v;cases v <;> try (cases h;done)
  dsimp only at h ⊢;split at h
  ·rename_i hk;simp only[qmi]at h;obtain⟨n,h,rfl⟩:=h;exact⟨Xo hk,qaL h (hK _ (.v _))⟩
  ·cases h
 case cmp op x y=>
  simp only[cd,gj,nO,Di,gk,nH,nP,nM,nN,nG,nI,gm,dC,Da,Dh,nK,Dg,Dd,nL,nJ,Dc,De,Db,Cy,Df]at h;simp only[ah];have hx:=aL hσ x;have hy:=aL hσ y;generalize ev σe x=a at h hx;generalize ev σ x=b at hx;generalize ev σe y=a' at h hy;generalize ev σ y=b' at hy;cases hx <;> try (cases h;done)
  rename_i v;cases v <;> try (cases h;done)
  all_goals
   cases hy <;> try (cases h;done)
   rename_i v;cases v <;> try (cases h;done)
   dsimp only at h ⊢
  ·split at h
   ·rename_i hk;simp only[qmi]at h;obtain⟨t,h,rfl⟩:=h;rw[h];exact⟨hk,hK _ (.v _)⟩
   ·cases h
  ·simp only[qmi]at h;obtain⟨t,h,rfl⟩:=h;rw[h];exact hK _ (.v _)
 case eql neg agg ks x y=>
  simp only[cd,qmi]at h;obtain⟨p,h,rfl⟩:=h;simp only[ah];rw[XT (aL hσ x) (aL hσ y) h];exact hK _ (.v _)
 case scat x y=>
  simp only[cd,gj,nO,Di,gk,nH,nP,nM,nN,nG,nI,gm,dC,Da,Dh,nK,Dg,Dd,nL,nJ,Dc,De,Db,Cy,Df]at h;simp only[ah];have hx:=aL hσ x;have hy:=aL hσ y;generalize ev σe x=a at h hx;generalize ev σ x=b at hx;generalize ev σe y=a' at h hy;generalize ev σ y=b' at hy;cases hx <;> try (cases h;done)
  rename_i v;cases v <;> try (cases h;done)
  cases hy <;> try (cases h;done)
  rename_i v;cases v <;> try (cases h;done)
  dsimp only at h ⊢;split at h
  ·rename_i hk;cases h;exact⟨hk,hK _ (.v _)⟩
  ·cases h
 case not x=>
  simp only[cd,gj,nO,Di,gk,nH,nP,nM,nN,nG,nI,gm,dC,Da,Dh,nK,Dg,Dd,nL,nJ,Dc,De,Db,Cy,Df]at h;simp only[ah];have hx:=aL hσ x;generalize ev σe x=a at h hx;generalize ev σ x=b at hx;cases hx <;> try (cases h;done)
  rename_i v;cases v <;> try (cases h;done)
  cases h;exact hK _ (.v _)
 case neg x=>
  simp only[cd,gj,nO,Di,gk,nH,nP,nM,nN,nG,nI,gm,dC,Da,Dh,nK,Dg,Dd,nL,nJ,Dc,De,Db,Cy,Df]at h;simp only[ah];have hx:=aL hσ x;generalize ev σe x=a at h hx;generalize ev σ x=b at hx;cases hx <;> try (cases h;done)
  rename_i v;cases v <;> try (cases h;done)
  dsimp only at h ⊢;split at h
  ·rename_i hk;cases h;exact⟨Jt hk,hK _ (.v _)⟩
  ·cases h
 case conv k x=>
  simp only[cd,gj,nO,Di,gk,nH,nP,nM,nN,nG,nI,gm,dC,Da,Dh,nK,Dg,Dd,nL,nJ,Dc,De,Db,Cy,Df]at h;simp only[ah];have hx:=aL hσ x;generalize ev σe x=a at h hx;generalize ev σ x=b at hx;cases hx <;> try (cases h;done)
  rename_i v;cases v <;> try (cases h;done)
  cases h;exact hK _ (.v _)
 case clo f caps=>
  cases h;have hr:=sX hσ caps;exact hK _ (.clo _ _ _ hr.1 hr.2)
 case slice n x lo hi=>
  simp only[cd,gj,nO,Di,gk,nH,nP,nM,nN,nG,nI,gm,dC,Da,Dh,nK,Dg,Dd,nL,nJ,Dc,De,Db,Cy,Df]at h;simp only[ah];have hx:=aL hσ x;generalize ev σe x=a at h hx;generalize ev σ x=b at hx;cases hx <;> try (cases h;done)
  ·rename_i n' cs ds hl hc;dsimp only at h ⊢;split at h
   ·rename_i hn;simp only[qmi]at h;obtain⟨p,h,rfl⟩:=h;refine⟨Nat.eq_of_beq_eq_true hn,?_⟩;have hrl:RepL ρ cs ds:=⟨hl,hc⟩
    have hKp:K (.list n ((ds.take p.2).drop p.1)):=hK _ (.list _ _ _ ((hrl.take p.2).drop p.1).1 ((hrl.take p.2).drop p.1).2);rw[hl]at h;have hv:=JS hσ h (K:=λl h=>l=p.1/\h=p.2) ⟨rfl,rfl⟩;generalize (lo.map λo=>iY (ev σ o))=a at hv ⊢;generalize (hi.map λo=>iY (ev σ o))=b at hv ⊢;rcases a with _|_|⟨k1,l1⟩ <;> rcases b with _|_|⟨k2,l2⟩ <;> simp only[mK]at hv ⊢ <;> try (exact hv.elim)
    ·rw[<-hv.1,<-hv.2,qmJ,List.drop_zero]at hKp;exact hKp
    ·rw[<-hv.2.2.1,<-hv.2.2.2,List.drop_zero]at hKp;exact⟨hv.1,hv.2.1,hKp⟩
    ·rw[<-hv.2.2.1,<-hv.2.2.2,qmJ]at hKp;exact⟨hv.1,hv.2.1,hKp⟩
    ·rw[<-hv.2.2.2.1,<-hv.2.2.2.2]at hKp;exact⟨hv.1,hv.2.1,hv.2.2.1,hKp⟩
   ·cases h
  ·rename_i id m x b hn;dsimp only at h ⊢;split at h
   ·rename_i x' el n' es hg;split at h
    ·rename_i hb;simp only[qmf]at hb;simp only[qmi]at h;obtain⟨p,h,rfl⟩:=h;obtain⟨r',h1,h2⟩:=hH _ _ hg;rw[h1];cases h2 with
     | row m' el w' cs ds y b2 hm hc=>
       have e:=Nat.eq_of_beq_eq_true hb.2;subst e;have ex:=zq hb.1 hm hn;subst ex;rw[hc.1]at h;exact⟨rfl,rfl,JS hσ h (hK _ (.sub _ _ _ _ _ _ _ hn))⟩
    ·cases h
   ·cases h
 case sslice x lo hi=>
  simp only[cd,gj,nO,Di,gk,nH,nP,nM,nN,nG,nI,gm,dC,Da,Dh,nK,Dg,Dd,nL,nJ,Dc,De,Db,Cy,Df]at h;simp only[ah];have hx:=aL hσ x;generalize ev σe x=a at h hx;generalize ev σ x=b at hx;cases hx <;> try (cases h;done)
  rename_i v;cases v <;> try (cases h;done)
  rename_i s;simp only[qmi]at h;obtain⟨p,h,rfl⟩:=h;have hKp:K (.v (.string (s.extract p.1 p.2))):=hK _ (.v _);have hv:=JS hσ h (K:=λl h=>l=p.1/\h=p.2) ⟨rfl,rfl⟩;dsimp only;generalize (lo.map λo=>iY (ev σ o))=a at hv ⊢;generalize (hi.map λo=>iY (ev σ o))=b at hv ⊢;rcases a with _|_|⟨k1,l1⟩ <;> rcases b with _|_|⟨k2,l2⟩ <;> simp only[mK]at hv ⊢ <;> try (exact hv.elim)
  ·rw[<-hv.1,<-hv.2]at hKp;exact hKp
  ·rw[<-hv.2.2.1,<-hv.2.2.2]at hKp;exact⟨hv.1,hv.2.1,hKp⟩
  ·rw[<-hv.2.2.1,<-hv.2.2.2]at hKp;exact⟨hv.1,hv.2.1,hKp⟩
  ·rw[<-hv.2.2.2.1,<-hv.2.2.2.2]at hKp;exact⟨hv.1,hv.2.1,hv.2.2.1,hKp⟩
 case faddr off x=>
  simp only[cd,gj,nO,Di,gk,nH,nP,nM,nN,nG,nI,gm,dC,Da,Dh,nK,Dg,Dd,nL,nJ,Dc,De,Db,Cy,Df]at h;simp only[ah];have hx:=aL hσ x;generalize ev σe x=a at h hx;generalize ev σ x=b at hx;cases hx <;> try (cases h;done)
  ·rename_i cs ds off hl hc;cases h;exact hK _ (.cptr _ _ _ hl hc)
  ·rename_i hn;cases h;exact hK _ (.bptr _ _ _ _ _ hn)
  ·rename_i hn;cases h;exact hK _ (.eptr _ _ _ _ _ _ _ hn)
 case fld agg sz off x=>
  simp only[cd,gj,nO,Di,gk,nH,nP,nM,nN,nG,nI,gm,dC,Da,Dh,nK,Dg,Dd,nL,nJ,Dc,De,Db,Cy,Df]at h;simp only[ah];have hx:=aL hσ x;generalize ev σe x=a at h hx;generalize ev σ x=b at hx;cases hx <;> try (cases h;done)
  rename_i cs ds hl hc;dsimp only at h ⊢;split at h
  ·rename_i hb;cases h;exact⟨by rw[<-hl];exact hb,hK _ (IL ⟨hl,hc⟩ _ _ _)⟩
  ·cases h
 case iaddr n x i=>
  simp only[cd,gj,nO,Di,gk,nH,nP,nM,nN,nG,nI,gm,dC,Da,Dh,nK,Dg,Dd,nL,nJ,Dc,De,Db,Cy,Df]at h;simp only[ah];have hi:=aL hσ i;generalize ev σe i=a at h hi;generalize ev σ i=b at hi;cases hi <;> try (cases h;done)
  rename_i v;cases v <;> try (cases h;done)
  rename_i k;dsimp only at h ⊢;have hx:=aL hσ x;generalize ev σe x=a at h hx;generalize ev σ x=b at hx;cases hx <;> try (cases h;done)
  ·rename_i n' cs ds hl hc;dsimp only at h ⊢;split at h
   ·rename_i hb;simp only[qmf,decide_eq_true_eq]at hb;split at h
    ·rename_i d0 hd0;split at h
     ·rename_i hk;cases h;obtain⟨d1,hd1,hr⟩:=RepL.get ⟨hl,hc⟩ hd0;have hlt:=(qmb.1 hd1).1;refine⟨Nat.eq_of_beq_eq_true hb.1,hb.2,by omega,λd hd=>?_⟩;rw[hd1]at hd;cases hd;exact hK _ (.cptr _ _ _ (hr.cells hk).1 (hr.cells hk).2)
     ·cases h
    ·cases h
   ·cases h
  ·rename_i id m x b hn;dsimp only at h ⊢;split at h
   ·rename_i x' el n' es hg;split at h
    ·rename_i hb;simp only[qmf,decide_eq_true_eq]at hb;cases h;obtain⟨r',h1,h2⟩:=hH _ _ hg;rw[h1];cases h2 with
     | row m' el w' cs ds y b2 hm hc=>
       have e:=Nat.eq_of_beq_eq_true hb.1.1.2;subst e;have ex:=zq hb.1.1.1 hm hn;subst ex;exact⟨rfl,rfl,hb.1.2,by rw[<-hc.1];exact hb.2,hK _ (.eptr _ _ _ _ _ _ _ hn)⟩
    ·cases h
   ·cases h
  ·rename_i id m w lo hi x b hn;dsimp only at h ⊢;split at h
   ·rename_i hb;simp only[qmf,decide_eq_true_eq]at hb;cases h;exact⟨Nat.eq_of_beq_eq_true hb.1.1,hb.1.2,hb.2,hK _ (.eptr _ _ _ _ _ _ _ hn)⟩
   ·cases h
 case sidx x i=>
  simp only[cd,gj,nO,Di,gk,nH,nP,nM,nN,nG,nI,gm,dC,Da,Dh,nK,Dg,Dd,nL,nJ,Dc,De,Db,Cy,Df]at h;simp only[ah];have hi:=aL hσ i;generalize ev σe i=a at h hi;generalize ev σ i=b at hi;cases hi <;> try (cases h;done)
  rename_i v;cases v <;> try (cases h;done)
  rename_i k;dsimp only at h ⊢;have hx:=aL hσ x;generalize ev σe x=a at h hx;generalize ev σ x=b at hx;cases hx <;> try (cases h;done)
  rename_i v;cases v <;> try (cases h;done)
  rename_i s;dsimp only at h ⊢;split at h
  ·rename_i h0;simp only[decide_eq_true_eq]at h0;simp only[qmi]at h;obtain⟨c,hc,rfl⟩:=h;have hlt:k.toNat < s.size:=(qmh.1 hc).1;refine⟨h0,by omega,λc' hc'=>?_⟩;rw[hc]at hc';cases hc';exact hK _ (.v _)
  ·cases h
 case ext x i=>
  simp only[cd,gj,nO,Di,gk,nH,nP,nM,nN,nG,nI,gm,dC,Da,Dh,nK,Dg,Dd,nL,nJ,Dc,De,Db,Cy,Df]at h;simp only[ah];have hx:=aL hσ x;generalize ev σe x=a at h hx;generalize ev σ x=b at hx;cases hx <;> try (cases h;done)
  rename_i cs ds hl hc;dsimp only at h ⊢;obtain⟨d1,hd1,hr⟩:=RepL.get ⟨hl,hc⟩ h;rw[hd1];exact hK _ hr
 case len x=>
  simp only[cd,gj,nO,Di,gk,nH,nP,nM,nN,nG,nI,gm,dC,Da,Dh,nK,Dg,Dd,nL,nJ,Dc,De,Db,Cy,Df]at h;simp only[ah];have hx:=aL hσ x;generalize ev σe x=a at h hx;generalize ev σ x=b at hx;cases hx <;> try (cases h;done)
  ·rename_i v;cases v <;> try (cases h;done)
   cases h;exact hK _ (.v _)
  ·rename_i n' cs ds hl hc;cases h;dsimp only;rw[hl]at hK;exactλ_=>hK _ (.v _)
  ·rename_i id m x b hn;dsimp only at h ⊢;split at h
   ·rename_i x' el n' es hg;split at h
    ·rename_i hb;cases h;obtain⟨r',h1,h2⟩:=hH _ _ hg;rw[h1];cases h2 with
     | row m' el w' cs ds y b2 hm hc=>
       have ex:=zq hb hm hn;subst ex;rw[hc.1]at hK;exact⟨rfl,λ_=>hK _ (.v _)⟩
    ·cases h
   ·cases h
  ·cases h;exactλ_=>hK _ (.v _)
 case slen x=>
  simp only[cd,gj,nO,Di,gk,nH,nP,nM,nN,nG,nI,gm,dC,Da,Dh,nK,Dg,Dd,nL,nJ,Dc,De,Db,Cy,Df]at h;simp only[ah];have hx:=aL hσ x;generalize ev σe x=a at h hx;generalize ev σ x=b at hx;cases hx <;> try (cases h;done)
  rename_i v;cases v <;> try (cases h;done)
  cases h;exactλ_=>hK _ (.v _)
 case rstr x=>
  simp only[cd,gj,nO,Di,gk,nH,nP,nM,nN,nG,nI,gm,dC,Da,Dh,nK,Dg,Dd,nL,nJ,Dc,De,Db,Cy,Df]at h;simp only[ah];have hx:=aL hσ x;generalize ev σe x=a at h hx;generalize ev σ x=b at hx;cases hx <;> try (cases h;done)
  rename_i v;cases v <;> try (cases h;done)
  cases h;exact hK _ (.v _)
 case srunes x=>
  simp only[cd,gj,nO,Di,gk,nH,nP,nM,nN,nG,nI,gm,dC,Da,Dh,nK,Dg,Dd,nL,nJ,Dc,De,Db,Cy,Df]at h;simp only[ah];have hx:=aL hσ x;generalize ev σe x=a at h hx;generalize ev σ x=b at hx;cases hx <;> try (cases h;done)
  rename_i v;cases v <;> try (cases h;done)
  dsimp only at h ⊢;split at h
  ·rename_i hs;cases h;refine⟨hs,hK _ (.list _ _ _ rfl (RepL.same λd hd=>?_).2)⟩;obtain⟨y,_,rfl⟩:=qmo.1 hd;exact .v _
  ·cases h
 case sbytes x=>
  simp only[cd,Cy]at h;simp only[ah];have hx:=aL hσ x;generalize ev σe x=a at h hx;generalize ev σ x=b at hx;cases hx <;> try (cases h;done)
  rename_i v;cases v <;> try (cases h;done)
  cases h;refine hK _ (.list _ _ _ rfl (RepL.same λd hd=>?_).2);obtain⟨y,_,rfl⟩:=qmo.1 hd;exact .v _
 case mm mx xs=>
  match xs,h with
  | [x,y],h=>
    simp only[cd,gj,nO,Di,gk,nH,nP,nM,nN,nG,nI,gm,dC,Da,Dh,nK,Dg,Dd,nL,nJ,Dc,De,Db,Cy,Df]at h;simp only[ah];have hx:=aL hσ x;have hy:=aL hσ y;generalize ev σe x=a at h hx;generalize ev σ x=b at hx;generalize ev σe y=a' at h hy;generalize ev σ y=b' at hy;cases hx <;> try (cases h;done)
    rename_i v;cases v <;> try (cases h;done)
    cases hy <;> try (cases h;done)
    rename_i v;cases v <;> try (cases h;done)
    dsimp only at h ⊢;split at h
    ·rename_i hk;cases h;exact⟨hk,hK _ (.v _)⟩
    ·cases h
end
end X
end Go.Gv
