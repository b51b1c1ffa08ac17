/- A part of the framework and of the walks: T50. -/
import Derived.Test.YtfbleenmepoodaaGreatDoorGa24
set_option linter.unusedSimpArgs false
set_option linter.unusedVariables false
set_option linter.unusedSectionVars false
set_option linter.defProp false
namespace Go.Gv
namespace X
abbrev VL:=List (Value×Nat)
abbrev nm(n:Nat):Value:= .int .i64 n
inductive Rep (ρ:VL):D->D->Prop
 | any (d:D):Rep ρ .any d
 | undef:Rep ρ .undef .undef
 | v (x:Value):Rep ρ (.v x) (.v x)
 | agg (cs ds:List D) (hl:cs.length=ds.length) (h:∀ (k:Nat) (c d:D),cs[k]? =some c->ds[k]? =some d->Rep ρ c d):Rep ρ (.agg cs) (.agg ds)
 | tup (cs ds:List D) (hl:cs.length=ds.length) (h:∀ (k:Nat) (c d:D),cs[k]? =some c->ds[k]? =some d->Rep ρ c d):Rep ρ (.tup cs) (.tup ds)
 | list (n:Nat) (cs ds:List D) (hl:cs.length=ds.length) (h:∀ (k:Nat) (c d:D),cs[k]? =some c->ds[k]? =some d->Rep ρ c d):Rep ρ (.list n cs) (.list n ds)
 | cptr (cs ds:List D) (off:Nat) (hl:cs.length=ds.length) (h:∀ (k:Nat) (c d:D),cs[k]? =some c->ds[k]? =some d->Rep ρ c d):Rep ρ (.cptr cs off) (.cptr ds off)
 | clo (f:Nat) (cs ds:List D) (hl:cs.length=ds.length) (h:∀ (k:Nat) (c d:D),cs[k]? =some c->ds[k]? =some d->Rep ρ c d):Rep ρ (.clo f cs) (.clo f ds)
 | own (id n:Nat) (x:Value) (b:Nat) (h:ρ[n]? =some (x,b)):Rep ρ (.own id (nm n)) (.own id x)
 | bptr (id n off:Nat) (x:Value) (b:Nat) (h:ρ[n]? =some (x,b)):Rep ρ (.bptr id n off) (.bptr id b off)
 | eptr (id n w i off:Nat) (x:Value) (b:Nat) (h:ρ[n]? =some (x,b)):Rep ρ (.eptr id (nm n) w i off) (.eptr id x w i off)
 | sub (id n w lo hi:Nat) (x:Value) (b:Nat) (h:ρ[n]? =some (x,b)):Rep ρ (.sub id (nm n) w lo hi) (.sub id x w lo hi)
def RepL(ρ:VL)(cs ds:List D):Prop:=cs.length=ds.length/\∀ (k:Nat) (c d:D),cs[k]? =some c->ds[k]? =some d->Rep ρ c d
inductive RepR (ρ:VL):Res->Res->Prop
 | box (n:Nat) (cs ds:List D) (x:Value) (b:Nat) (h:ρ[n]? =some (x,b)) (hc:RepL ρ cs ds):RepR ρ (.box n cs) (.box b ds)
 | row (n el w:Nat) (cs ds:List D) (x:Value) (b:Nat) (h:ρ[n]? =some (x,b)) (hc:RepL ρ cs ds):RepR ρ (.row (nm n) el w cs) (.row x el w ds)
 | iter (n:Nat) (s:ByteArray) (p:Nat) (x:Value) (b:Nat) (h:ρ[n]? =some (x,b)):RepR ρ (.iter n s p) (.iter b s p)
theorem Rep.mono{ρ ρ':VL}(hp:ρ <+:ρ'){c d:D}(h:Rep ρ c d):Rep ρ' c d:=by
 have up:∀ {n:Nat} {y:Value×Nat},ρ[n]? =some y->ρ'[n]? =some y:=λ{n y} h=>by
  obtain⟨l,rfl⟩:=hp;rw[qjQ (qjA.1 h).1];exact h
 induction h with
 | any d=>exact .any d
 | undef=>exact .undef
 | v x=>exact .v x
 | agg cs ds hl _ ih=>exact .agg cs ds hl ih
 | tup cs ds hl _ ih=>exact .tup cs ds hl ih
 | list n cs ds hl _ ih=>exact .list n cs ds hl ih
 | cptr cs ds off hl _ ih=>exact .cptr cs ds off hl ih
 | clo f cs ds hl _ ih=>exact .clo f cs ds hl ih
 | own id n x b h=>exact .own id n x b (up h)
 | bptr id n off x b h=>exact .bptr id n off x b (up h)
 | eptr id n w i off x b h=>exact .eptr id n w i off x b (up h)
 | sub id n w lo hi x b h=>exact .sub id n w lo hi x b (up h)
def RepL.mono{ρ ρ':VL}(hp:ρ <+:ρ'){cs ds:List D}(h:RepL ρ cs ds):RepL ρ' cs ds:=⟨h.1,λk c d h1 h2=>(h.2 k c d h1 h2).mono hp⟩
def RepR.mono{ρ ρ':VL}(hp:ρ <+:ρ'){r s:Res}(h:RepR ρ r s):RepR ρ' r s:=by
 have up:∀ {n:Nat} {y:Value×Nat},ρ[n]? =some y->ρ'[n]? =some y:=λ{n y} h=>by
  obtain⟨l,rfl⟩:=hp;rw[qjQ (qjA.1 h).1];exact h
 cases h with
 | box n cs ds x b h hc=>exact .box n cs ds x b (up h) (hc.mono hp)
 | row n el w cs ds x b h hc=>exact .row n el w cs ds x b (up h) (hc.mono hp)
 | iter n s p x b h=>exact .iter n s p x b (up h)
section
variable {ρ:VL}
def RepL.nil:RepL ρ [] []:=⟨rfl,λk c d h=>by simp at h⟩
def RepL.cons{c d:D}{cs ds:List D}(h:Rep ρ c d)(hl:RepL ρ cs ds):RepL ρ (c::cs) (d::ds):=⟨by simp[hl.1],λk a b h1 h2=>by
 cases k with
 | zero=>simp at h1 h2;subst h1;subst h2;exact h
 | succ k=>simp at h1 h2;exact hl.2 k a b h1 h2⟩
def RepL.get{cs ds:List D}(h:RepL ρ cs ds){k:Nat}{c:D}(hc:cs[k]? =some c):∃d,ds[k]? =some d/\Rep ρ c d:=by
 have hk:k < ds.length:=by rw[<-h.1];exact(qjA.1 hc).1
 exact⟨ds[k],qjC hk,h.2 k c _ hc (qjC hk)⟩
def RepL.append{a b c d:List D}(h:RepL ρ a b)(k:RepL ρ c d):RepL ρ (a++c) (b++d):=⟨by simp[h.1,k.1],λi x y h1 h2=>by
 by_cases hi:i < a.length
 ·rw[qjQ hi]at h1;rw[qjQ (by rw[<-h.1];exact hi)]at h2;exact h.2 i x y h1 h2
 ·rw[qjK (by omega)]at h1;rw[qjK (by rw[<-h.1];omega),<-h.1]at h2;exact k.2 _ x y h1 h2⟩
def RepL.take{a b:List D}(h:RepL ρ a b)(n:Nat):RepL ρ (a.take n) (b.take n):=⟨by simp[h.1],λi x y h1 h2=>by
 rw[qjS]at h1 h2;split at h1
 ·rename_i hi;rw[if_pos hi]at h2;exact h.2 i x y h1 h2
 ·cases h1⟩
def RepL.drop{a b:List D}(h:RepL ρ a b)(n:Nat):RepL ρ (a.drop n) (b.drop n):=⟨by simp[h.1],λi x y h1 h2=>by
 rw[qkb]at h1 h2;exact h.2 _ x y h1 h2⟩
def RepL.set{a b:List D}(h:RepL ρ a b){n:Nat}{c d:D}(hc:Rep ρ c d):RepL ρ (a.set n c) (b.set n d):=⟨by simp[h.1],λi x y h1 h2=>by
 rw[List.getElem?_set]at h1 h2;split at h1
 ·rename_i e;rw[if_pos e]at h2;rw[h.1]at h1;split at h1
  ·rename_i hl;rw[if_pos hl]at h2;cases h1;cases h2;exact hc
  ·cases h1
 ·rename_i e;rw[if_neg e]at h2;exact h.2 i x y h1 h2⟩
def RepL.same:∀ {l:List D},(∀d∈l,Rep ρ d d)->RepL ρ l l
 | [],_=> .nil
 | d::l,h=> .cons (h d (by simp)) (RepL.same λd hd=>h d (by simp[hd]))
def RepL.rep{c d:D}(h:Rep ρ c d):∀n,RepL ρ (List.replicate n c) (List.replicate n d)
 | 0=> .nil
 | n+1=> .cons h (RepL.rep h n)
def GK(x:Value):Rep ρ (lL x) (lL x):=by
 cases x <;> first|exact .v _|exact .any _
def CQ(z:List Value):RepL ρ (z.map lL) (z.map lL):=RepL.same λd hd=>by
 obtain⟨x,_,rfl⟩:=qjN.1 hd;exact GK x
def Rep.kn{c d:D}(h:Rep ρ c d)(hk:c.kn=true):d.kn=true:=by
 cases h <;> first|exact hk|rfl|(cases hk)
theorem Rep.cells{c d:D}(h:Rep ρ c d)(hk:c.kn=true):RepL ρ c.cells d.cells:=by
 cases h with
 | agg cs ds hl h=>exact⟨hl,h⟩
 | any d=>cases hk
 | undef=>exact .cons .undef .nil
 | v x=>exact .cons (.v x) .nil
 | tup cs ds hl h=>exact .cons (.tup cs ds hl h) .nil
 | list n cs ds hl h=>exact .cons (.list n cs ds hl h) .nil
 | cptr cs ds off hl h=>exact .cons (.cptr cs ds off hl h) .nil
 | clo f cs ds hl h=>exact .cons (.clo f cs ds hl h) .nil
 | own id n x b h=>exact .cons (.own id n x b h) .nil
 | bptr id n off x b h=>exact .cons (.bptr id n off x b h) .nil
 | eptr id n w i off x b h=>exact .cons (.eptr id n w i off x b h) .nil
 | sub id n w lo hi x b h=>exact .cons (.sub id n w lo hi x b h) .nil
def GJ{cs ds:List D}(h:RepL ρ cs ds)(agg:Bool)(sz off:Nat):Rep ρ (Bq agg sz cs off) (Bq agg sz ds off):=by
 unfold Bq;split
 ·exact .agg _ _ ((h.drop off).take sz).1 ((h.drop off).take sz).2
 ·cases hc:cs[off]? with
  | none=>exact .any _
  | some c=>
    obtain⟨d,hd,hr⟩:=h.get hc;rw[hd];exact hr
def zW{a b c d:List D}(h:RepL ρ a b)(k:RepL ρ c d)(off:Nat):RepL ρ (setAt a off c) (setAt b off d):=by
 unfold setAt;rw[<-k.1];exact((h.take off).append k).append (h.drop _)
def Ue{c d:D}(h:Rep ρ c d){p:IntKind×Int}(hp:iB c=some p):d=c:=by
 cases h <;> first|rfl|(simp[iB]at hp)
end
inductive Tr (α:Type) where
 | e
 | n (v:Option α) (l r:Tr α)
namespace Tr
variable {α:Type}
noncomputable def get(t:Tr α):Nat->Option α:=Tr.rec (motive:=λ_=>Nat->Option α) (λ_=>none)
 (λv _ _ gl gr k=>Bool.rec (Bool.rec (gr (Nat.div (Nat.sub k 2) 2)) (gl (Nat.div (Nat.sub k 1) 2)) (Nat.beq (Nat.mod k 2) 1)) v (Nat.beq k 0)) t
def val:Tr α->Option α
 | .e=>none
 | .n v _ _=>v
def lf:Tr α->Tr α
 | .e=> .e
 | .n _ l _=>l
def rt:Tr α->Tr α
 | .e=> .e
 | .n _ _ r=>r
noncomputable def Jf(d:Nat):Tr α->Nat->Option α->Tr α:=Nat.rec (motive:=λ_=>Tr α->Nat->Option α->Tr α) (λ_ _ _=> .e)
 (λ_ ih t k v=>Bool.rec (Bool.rec (.n t.val t.lf (ih t.rt (Nat.div (Nat.sub k 2) 2) v)) (.n t.val (ih t.lf (Nat.div (Nat.sub k 1) 2) v) t.rt) (Nat.beq (Nat.mod k 2) 1)) (.n v t.lf t.rt) (Nat.beq k 0)) d
noncomputable def set(t:Tr α)(k:Nat)(v:α):Tr α:=Jf 14 t k (some v)
noncomputable def del(t:Tr α)(k:Nat):Tr α:=Jf 14 t k none
noncomputable def map(f:α->α)(t:Tr α):Tr α:=Tr.rec (motive:=λ_=>Tr α) .e (λv _ _ l r=> .n (Option.rec none (λa=>some (f a)) v) l r) t
def get_e(k:Nat):get (.e:Tr α) k=none:=rfl
def get_n(v:Option α)(l r:Tr α)(k:Nat):get (.n v l r) k=if k=0 then v else if k % 2=1 then get l ((k -1) /2)else get r ((k -2) /2):=by
 show Bool.rec (motive:=λ_=>Option α) (Bool.rec (motive:=λ_=>Option α) (get r (Nat.div (Nat.sub k 2) 2)) (get l (Nat.div (Nat.sub k 1) 2)) (Nat.beq (Nat.mod k 2) 1)) v (Nat.beq k 0)=_;cases h:Nat.beq k 0 with
 | true=>rw[if_pos (Nat.eq_of_beq_eq_true h)]
 | false=>
   rw[if_neg (Nat.ne_of_beq_eq_false h)];cases h2:Nat.beq (Nat.mod k 2) 1 with
   | true=>rw[if_pos (show k % 2=1 from Nat.eq_of_beq_eq_true h2)];rfl
   | false=>rw[if_neg (show ¬k % 2=1 from Nat.ne_of_beq_eq_false h2)];rfl
def Pc(t:Tr α)(k:Nat):get t k=if k=0 then t.val else if k % 2=1 then get t.lf ((k -1) /2)else get t.rt ((k -2) /2):=by
 cases t with
 | e=>simp[get_e,val,lf,rt]
 | n v l r=>exact get_n v l r k
theorem WL(d:Nat)(t:Tr α)(k:Nat)(v:Option α):Jf (d+1) t k v=if k=0 then .n v t.lf t.rt else if k % 2=1 then .n t.val (Jf d t.lf ((k -1) /2) v) t.rt else .n t.val t.lf (Jf d t.rt ((k -2) /2) v):=by
 show Bool.rec (motive:=λ_=>Tr α) (Bool.rec (motive:=λ_=>Tr α) (Tr.n t.val t.lf (Jf d t.rt (Nat.div (Nat.sub k 2) 2) v)) (.n t.val (Jf d t.lf (Nat.div (Nat.sub k 1) 2) v) t.rt) (Nat.beq (Nat.mod k 2) 1)) (.n v t.lf t.rt) (Nat.beq k 0)=_;cases h:Nat.beq k 0 with
 | true=>rw[if_pos (Nat.eq_of_beq_eq_true h)]
 | false=>
   rw[if_neg (Nat.ne_of_beq_eq_false h)];cases h2:Nat.beq (Nat.mod k 2) 1 with
   | true=>rw[if_pos (show k % 2=1 from Nat.eq_of_beq_eq_true h2)];rfl
   | false=>rw[if_neg (show ¬k % 2=1 from Nat.ne_of_beq_eq_false h2)];rfl
theorem yD{v:Option α} :∀ (d:Nat) (t:Tr α) (k j:Nat) (r:α),get (Jf d t k v) j=some r->(j=k/\v=some r)\/(j≠k/\get t j=some r)
 | 0,t,k,j,r,h=>by cases h
 | d+1,t,k,j,r,h=>by
   rw[WL]at h;rw[Pc t j];split at h
   ·rename_i hk;rw[get_n]at h;split at h
    ·rename_i hj;exact .inl ⟨by omega,h⟩
    ·rename_i hj;rw[if_neg hj];exact .inr ⟨by omega,h⟩
   ·split at h
    ·rename_i hk hk2;rw[get_n]at h;split at h
     ·rename_i hj;rw[if_pos hj];exact .inr ⟨by omega,h⟩
     ·rename_i hj;rw[if_neg hj];split at h
      ·rename_i hj2;rw[if_pos hj2];rcases yD d _ _ _ _ h with⟨e,hv⟩|⟨e,hg⟩
       ·exact .inl ⟨by omega,hv⟩
       ·exact .inr ⟨λe2=>e (by rw[e2]),hg⟩
      ·rename_i hj2;rw[if_neg hj2];exact .inr ⟨λe2=>hj2 (by rw[e2];exact hk2),h⟩
    ·rename_i hk hk2;rw[get_n]at h;split at h
     ·rename_i hj;rw[if_pos hj];exact .inr ⟨by omega,h⟩
     ·rename_i hj;rw[if_neg hj];split at h
      ·rename_i hj2;rw[if_pos hj2];exact .inr ⟨λe2=>hk2 (by rw[<-e2];exact hj2),h⟩
      ·rename_i hj2;rw[if_neg hj2];rcases yD d _ _ _ _ h with⟨e,hv⟩|⟨e,hg⟩
       ·exact .inl ⟨by omega,hv⟩
       ·exact .inr ⟨λe2=>e (by rw[e2]),hg⟩
def get_set{t:Tr α}{k j:Nat}{v r:α}(h:get (set t k v) j=some r):(j=k/\r=v)\/(j≠k/\get t j=some r):=
 (yD 14 t k j r h).imp (λh=>⟨h.1,by have:=h.2;simpa using this.symm⟩) id
def get_del{t:Tr α}{k j:Nat}{r:α}(h:get (del t k) j=some r):j≠k/\get t j=some r:=by
 rcases yD 14 t k j r h with⟨_,h⟩|h
 ·cases h
 ·exact h
def get_map(f:α->α):∀ (t:Tr α) (k:Nat),get (map f t) k=(get t k).map f
 | .e,k=>rfl
 | .n v l r,k=>by
   show get (.n (Option.rec none (λa=>some (f a)) v) (map f l) (map f r)) k=_;rw[get_n,get_n];split
   ·cases v <;> rfl
   ·split
    ·exact get_map f l _
    ·exact get_map f r _
end Tr
abbrev HE:=Tr Res
def HRep(ρ:VL)(he:HE)(H:aa):Prop:=∀i r,he.get i=some r->∃r',H i=some r'/\RepR ρ r r'
def SRep(ρ:VL)(σe σ:Sg):Prop:=∀t,Rep ρ (σe t) (σ t)
section
variable {ρ:VL}{σe σ:Sg}{he:HE}{H:aa}
def HRep.mono{ρ':VL}(hp:ρ <+:ρ')(h:HRep ρ he H):HRep ρ' he H:=λi r hi=>by
 obtain⟨r',h1,h2⟩:=h i r hi;exact⟨r',h1,h2.mono hp⟩
def HRep.set{r r':Res}{i:Nat}(h:HRep ρ he H)(hr:RepR ρ r r'):HRep ρ (he.set i r) (aj H i (some r')):=λj s hj=>by
 unfold aj;rcases Tr.get_set hj with⟨rfl,rfl⟩|⟨e,hg⟩
 ·exact⟨r',by rw[if_pos rfl],hr⟩
 ·rw[if_neg e];exact h j s hg
def aG(h:SRep ρ σe σ)(x:Operand):Rep ρ (ev σe x) (ev σ x):=by
 cases x with
 | tmp t=>exact h t
 | const x=>exact GK x
 | global g=>exact .v _
 | func f=>exact .clo _ _ _ rfl (λk c d h=>by simp at h)
def rG(h:SRep ρ σe σ)(l:List Operand):RepL ρ (l.map (ev σe)) (l.map (ev σ)):=by
 induction l with
 | nil=>exact .nil
 | cons x l ih=>exact .cons (aG h x) ih
end
def MK:Value->Value->Bool
 | .int _ a, .int _ b=>decide (a=b)
 | _,_=>false
def wb(n:Nat):List D->Bool
 | []=>true
 | d::r=>d.kn && Nat.beq d.cells.length n && wb n r
def L0:IntKind->Int->Bool
 | .i64,n=>decide (-9223372036854775808<=n) && decide (n<=9223372036854775807)
 | .i32,n=>decide (-2147483648<=n) && decide (n<=2147483647)
 | .i16,n=>decide (-32768<=n) && decide (n<=32767)
 | .i8,n=>decide (-128<=n) && decide (n<=127)
 | .u64,n=>decide (0<=n) && decide (n<=18446744073709551615)
 | .u32,n=>decide (0<=n) && decide (n<=4294967295)
 | .u16,n=>decide (0<=n) && decide (n<=65535)
 | .u8,n=>decide (0<=n) && decide (n<=255)
def Hl{k:IntKind}{n:Int}(h:L0 k n=true):InR k n:=by
 cases k <;> simpa [L0,InR]using h
def Yn(op:BinOp)(k:IntKind)(a b:Int):Option Int:=match op with
 | .add=>if L0 k (a+b)then some (a+b)else none
 | .sub=>if L0 k (a -b)then some (a -b)else none
 | .mul=>if L0 k (a*b)then some (a*b)else none
 | .quo=>if decide (b≠0) && L0 k (a.tdiv b)then some (a.tdiv b)else none
 | .rem=>if b=0 then none else some (a.tmod b)
 | .and=>some (KX k a b)
 | .or=>some (Y1 k a b)
 | .shl=>if 0<=b then some (Gr k a b)else none
 | .shr=>if 0<=b then some (Oo k a b)else none
 | _=>none
def qaA(op:BinOp)(k k':IntKind):Bool:=match op with
 | .shl| .shr=>true
 | _=>decide (k=k')
def HT(σ:Sg):List (Nat×Nat×Operand)->List D->Option (List D)
 | [],cs=>some cs
 | (off,sz,x)::r,cs=>if(ev σ x).kn && Nat.beq (ev σ x).cells.length sz then HT σ r (setAt cs off (ev σ x).cells)else none
def Sl(lo hi:Option (Option (IntKind×Int)))(len:Nat):Option (Nat×Nat):=match lo,hi with
 | none,none=>some (0,len)
 | some (some (_,l)),none=>if decide (0<=l) && decide (l<=len)then some (l.toNat,len)else none
 | none,some (some (_,h))=>if decide (0<=h) && decide (h<=len)then some (0,h.toNat)else none
 | some (some (_,l)),some (some (_,h))=>if decide (0<=l) && decide (l<=h) && decide (h<=len)then some (l.toNat,h.toNat)else none
 | _,_=>none
def fR(c x y:D):Option D:=match c with
 | .v (.bool true)=>some x
 | .v (.bool false)=>some y
 | _=>none
def mR(d:D):Option D:=if d.kn then some (.cptr d.cells 0)else none
def BO(n:Nat)(ds:List D):Option D:=if wb n ds then some (.list n ds)else none
noncomputable def fS(agg:Bool)(sz:Nat)(he:HE)(d:D):Option D:=match d with
 | .cptr cs off=>if off+sz<=cs.length then some (Bq agg sz cs off)else none
 | .bptr id b off=>match he.get id with
   | some (.box b' cs)=>if Nat.beq b' b && decide (off+sz<=cs.length)then some (Bq agg sz cs off)else none
   | _=>none
 | .eptr id x n i off=>match he.get id with
   | some (.row x' _ n' es)=>if MK x' x && Nat.beq n' n && decide (off+sz<=n)then(match es[i]? with
     | some d=>if d.kn then some (Bq agg sz d.cells off)else none
     | none=>none)else none
   | _=>none
 | _=>none
def mK(d:D):Option D:=match d with
 | .cptr cs off=>some (.cptr cs off)
 | .bptr id b off=>some (.bptr id b off)
 | .eptr id x n i off=>some (.eptr id x n i off)
 | _=>none
def mS(op:BinOp)(x y:D):Option D:=match x,y with
 | .v (.int k a), .v (.int k' b)=>if qaA op k k' then(Yn op k a b).map λn=> .v (.int k n)else none
 | _,_=>none
def mP(op:BinOp)(x y:D):Option D:=match x,y with
 | .v (.int k a), .v (.int k' b)=>if k=k' then(HQ op a b).map λt=> .v (.bool t)else none
 | .v (.string a), .v (.string b)=>(KC op a b).map λt=> .v (.bool t)
 | _,_=>none
def mQ(x y:D):Option D:=match x,y with
 | .v (.string a), .v (.string b)=>if a.size+b.size<=1000000000 then some (.v (.string (a++b)))else none
 | _,_=>none
def mJ(x:D):Option D:=match x with
 | .v (.bool b)=>some (.v (.bool (!b)))
 | _=>none
def mL(x:D):Option D:=match x with
 | .v (.int k n)=>if L0 k (0 -n)then some (.v (.int k (0 -n)))else none
 | _=>none
def fT(k:IntKind)(x:D):Option D:=match x with
 | .v (.int _ n)=>some (.v (.int k (k.wrap n)))
 | _=>none
noncomputable def dj(n:Nat)(he:HE)(lo hi:Option (Option (IntKind×Int)))(x:D):Option D:=match x with
 | .list n' es=>if Nat.beq n' n then(Sl lo hi es.length).map λp=> .list n ((es.take p.2).drop p.1)else none
 | .own id x=>match he.get id with
   | some (.row x' _ n' es)=>if MK x' x && Nat.beq n' n then(Sl lo hi es.length).map λp=> .sub id x n p.1 p.2 else none
   | _=>none
 | _=>none
def BG(lo hi:Option (Option (IntKind×Int)))(x:D):Option D:=match x with
 | .v (.string s)=>(Sl lo hi s.size).map λp=> .v (.string (s.extract p.1 p.2))
 | _=>none
def BN(off:Nat)(x:D):Option D:=match x with
 | .cptr cs o=>some (.cptr cs (o+off))
 | .bptr id b o=>some (.bptr id b (o+off))
 | .eptr id x n i o=>some (.eptr id x n i (o+off))
 | _=>none
def mN(agg:Bool)(sz off:Nat)(x:D):Option D:=match x with
 | .agg cs=>if off+sz<=cs.length then some (Bq agg sz cs off)else none
 | _=>none
noncomputable def BM(n:Nat)(he:HE)(x i:D):Option D:=match i with
 | .v (.int _ k)=>match x with
   | .list n' es=>if Nat.beq n' n && decide (0<=k)then(match es[k.toNat]? with
     | some d=>if d.kn then some (.cptr d.cells 0)else none
     | none=>none)else none
   | .own id x=>match he.get id with
     | some (.row x' _ n' es)=>if MK x' x && Nat.beq n' n && decide (0<=k) && decide (k < es.length)then some (.eptr id x n k.toNat 0)else none
     | _=>none
   | .sub id x n' lo hi=>if Nat.beq n' n && decide (0<=k) && decide (k < (hi -lo:Nat))then some (.eptr id x n (lo+k.toNat) 0)else none
   | _=>none
 | _=>none
def BJ(x i:D):Option D:=match i with
 | .v (.int _ k)=>match x with
   | .v (.string s)=>if decide (0<=k)then(s.data[k.toNat]?).map λc=> .v (.int .u8 c.toNat)else none
   | _=>none
 | _=>none
def mO(x:D)(i:Nat):Option D:=match x with
 | .tup ds=>ds[i]?
 | _=>none
noncomputable def mM(he:HE)(x:D):Option D:=match x with
 | .list _ es=>some (.v (.int .i64 es.length))
 | .own id x=>match he.get id with
   | some (.row x' _ _ es)=>if MK x' x then some (.v (.int .i64 es.length))else none
   | _=>none
 | .v (.slice _ n _)=>some (.v (.int .i64 n))
 | .sub _ _ _ lo hi=>some (.v (.int .i64 (hi -lo:Nat)))
 | _=>none
def BI(x:D):Option D:=match x with
 | .v (.string s)=>some (.v (.int .i64 s.size))
 | _=>none
def BK(x:D):Option D:=match x with
 | .v (.int _ n)=>some (.v (.string (Utf8.encode n)))
 | _=>none
def BH(x:D):Option D:=match x with
 | .v (.string s)=>if s.size<=1000000000 then some (.list 1 ((Conv.runesFrom s s.size 0 #[]).toList.map D.v))else none
 | _=>none
def A5(x:D):Option D:=match x with
 | .v (.string s)=>some (.list 1 (s.data.toList.map λc=> .v (.int .u8 c.toNat)))
 | _=>none
def BL(mx:Bool)(x y:D):Option D:=match x,y with
 | .v (.int k a), .v (.int k' b)=>if k=k' then some (.v (.int k (if mx then max a b else min a b)))else none
 | _,_=>none
noncomputable def bU(c:COp)(σ:Sg)(he:HE):Option D:=match c with
 | .mv x=>some (ev σ x)
 | .pick c x y=>fR (ev σ c) (ev σ x) (ev σ y)
 | .box _ true x=>mR (ev σ x)
 | .build z ps=>(HT σ ps (z.map lL)).map .agg
 | .bslice _ n ps=>BO n (ps.map (ev σ))
 | .load agg sz x=>fS agg sz he (ev σ x)
 | .nilck x=>mK (ev σ x)
 | .arith op x y=>mS op (ev σ x) (ev σ y)
 | .cmp op x y=>mP op (ev σ x) (ev σ y)
 | .eql neg agg ks x y=>(R1 agg ks (ev σ x) (ev σ y)).map λp=> .v (.bool (if neg then !p else p))
 | .scat x y=>mQ (ev σ x) (ev σ y)
 | .not x=>mJ (ev σ x)
 | .neg x=>mL (ev σ x)
 | .conv k x=>fT k (ev σ x)
 | .clo f caps=>some (.clo f (caps.map (ev σ)))
 | .slice n x lo hi=>dj n he (lo.map λo=>iB (ev σ o)) (hi.map λo=>iB (ev σ o)) (ev σ x)
 | .sslice x lo hi=>BG (lo.map λo=>iB (ev σ o)) (hi.map λo=>iB (ev σ o)) (ev σ x)
 | .faddr off x=>BN off (ev σ x)
 | .fld agg sz off x=>mN agg sz off (ev σ x)
 | .iaddr n x i=>BM n he (ev σ x) (ev σ i)
 | .sidx x i=>BJ (ev σ x) (ev σ i)
 | .ext x i=>mO (ev σ x) i
 | .len x=>mM he (ev σ x)
 | .slen x=>BI (ev σ x)
 | .rstr x=>BK (ev σ x)
 | .srunes x=>BH (ev σ x)
 | .sbytes x=>A5 (ev σ x)
 | .mm mx [x,y]=>BL mx (ev σ x) (ev σ y)
 | _=>none
section
variable {ρ:VL}{σe σ:Sg}{he:HE}{H:aa}
def uy{n:Nat} :∀ {cs ds:List D},RepL ρ cs ds->wb n cs=true->fW n ds
 | [], [],_,_=>trivial
 | [],_::_,h,_=>by have:=h.1;simp at this
 | _::_, [],h,_=>by have:=h.1;simp at this
 | c::cs,d::ds,h,hp=>by
   simp only[wb,qjE]at hp;have h0:=h.2 0 c d rfl rfl;have ht:RepL ρ cs ds:=⟨by have:=h.1;simpa using this,λk a b h1 h2=>h.2 (k+1) a b (by simpa using h1) (by simpa using h2)⟩
   refine⟨h0.kn hp.1.1,?_,uy ht hp.2⟩;rw[<- (h0.cells hp.1.1).1];exact Nat.eq_of_beq_eq_true hp.1.2
def FK(hσ:SRep ρ σe σ){K:List D->Prop} :∀ (ps:List (Nat×Nat×Operand)) (cs ds out:List D),RepL ρ cs ds->HT σe ps cs=some out->(∀ds',RepL ρ out ds'->K ds')->gg σ ps ds K
 | [],cs,ds,out,h,he,hK=>by cases he;exact hK ds h
 | (off,sz,x)::r,cs,ds,out,h,he,hK=>by
  simp only[HT]at he;split at he
  ·rename_i hc;simp only[qjE]at hc;have hx:=aG hσ x;refine⟨hx.kn hc.1,?_,FK hσ r _ _ out (zW h (hx.cells hc.1) off) he hK⟩;rw[<- (hx.cells hc.1).1];exact Nat.eq_of_beq_eq_true hc.2
  ·cases he
def HW(hσ:SRep ρ σe σ){o:Operand}{p:IntKind×Int}(h:iB (ev σe o)=some p):iB (ev σ o)=some p:=by rw[Ue (aG hσ o) h];exact h
theorem HL(hσ:SRep ρ σe σ){lo hi:Option Operand}{len:Nat}{p:Nat×Nat}(h:Sl (lo.map λo=>iB (ev σe o)) (hi.map λo=>iB (ev σe o)) len=some p){K:Nat->Nat->Prop}(hK:K p.1 p.2):
 lK (lo.map λo=>iB (ev σ o)) (hi.map λo=>iB (ev σ o)) len K:=by
 have key:∀ (o:Option Operand),(∃q,(o.map λo=>iB (ev σe o))=some (some q))\/(o.map λo=>iB (ev σe o))=none->(o.map λo=>iB (ev σ o))=o.map λo=>iB (ev σe o):=λo h=>by
  cases o with
  | none=>rfl
  | some o=>
    rcases h with⟨q,h⟩|h
    ·simp only[qlc,qjO]at h ⊢;rw[HW hσ h,h]
    ·cases h
 unfold Sl at h;split at h
 ·rename_i e1 e2;rw[key lo (.inr e1),key hi (.inr e2),e1,e2];cases h;exact hK
 ·rename_i k l e1 e2;rw[key lo (.inl ⟨_,e1⟩),key hi (.inr e2),e1,e2];split at h
  ·rename_i hc;simp at hc;cases h;exact⟨hc.1,hc.2,hK⟩
  ·cases h
 ·rename_i k l e1 e2;rw[key lo (.inr e1),key hi (.inl ⟨_,e2⟩),e1,e2];split at h
  ·rename_i hc;simp at hc;cases h;exact⟨hc.1,hc.2,hK⟩
  ·cases h
 ·rename_i k l k' l' e1 e2;rw[key lo (.inl ⟨_,e1⟩),key hi (.inl ⟨_,e2⟩),e1,e2];split at h
  ·rename_i hc;simp at hc;cases h;exact⟨hc.1.1,hc.1.2,hc.2,hK⟩
  ·cases h
 ·cases h
def xF{n m:Nat}{x:Value}{b:Nat}{y:Value}{c:Nat}(h:MK (nm n) (nm m)=true)(h1:ρ[n]? =some (x,b))(h2:ρ[m]? =some (y,c)):x=y:=by
 simp only[MK,decide_eq_true_eq]at h;have:n=m:=by omega
 subst this;rw[h1]at h2;cases h2;rfl
def Ym{op:BinOp}{k:IntKind}{a b n:Int}(h:Yn op k a b=some n){K:D->Prop}(hK:K (.v (.int k n))):ez op k a b K:=by
 cases op <;> simp only[Yn]at h <;> try (cases h;done)
 all_goals first
  | (split at h
     ·rename_i hc
      first
      | (cases h;exact⟨Hl hc,hK⟩)
      | (cases h;exact⟨hc,hK⟩)
      | (simp only[qjE,decide_eq_true_eq]at hc;cases h;exact⟨hc.1,Hl hc.2,hK⟩)
      | (cases h;done)
     ·rename_i hc
      first
      | (cases h;done)
      | (cases h;exact⟨hc,hK⟩))
  | (cases h;exact hK)
def UE{op:BinOp}{k k':IntKind}(h:qaA op k k'=true):OX op k k':=by
 cases op <;> first|trivial|exact(of_decide_eq_true (p:=k=k') h)
def Nv{k:K7}{a b c d:D}(h1:Rep ρ a c)(h2:Rep ρ b d){p:Bool}(h:Mn k a b=some p):Mn k c d=some p:=by
 cases h1 <;> cases h2 <;> first|exact h|(cases k <;> simp[Mn,iB,qb6,qb7]at h)
theorem Nu:∀ {ks:List K7} {az bs cs ds:List D},RepL ρ az cs->RepL ρ bs ds->∀ {p:Bool},Mk ks az bs=some p->Mk ks cs ds=some p
 | [],az,bs,cs,ds,h1,h2,p,h=>by
   have e1:=h1.1;have e2:=h2.1;cases az <;> cases cs <;> simp at e1 <;> cases bs <;> cases ds <;> simp at e2 <;> first|exact h|(simp[Mk]at h)
 | k::ks,az,bs,cs,ds,h1,h2,p,h=>by
   have e1:=h1.1;have e2:=h2.1;cases az with
   | nil=>simp[Mk]at h
   | cons a az=>
     cases bs with
     | nil=>simp[Mk]at h
     | cons b bs=>
       cases cs with
       | nil=>simp at e1
       | cons c cs=>
         cases ds with
         | nil=>simp at e2
         | cons d ds=>
           simp only[Mk,List.head?_cons,qjV,List.tail_cons,qjy]at h ⊢;obtain⟨q,hq,r,hr,h⟩:=h;have t1:RepL ρ az cs:=⟨by simpa using e1,λk x y a b=>h1.2 (k+1) x y (by simpa using a) (by simpa using b)⟩
           have t2:RepL ρ bs ds:=⟨by simpa using e2,λk x y a b=>h2.2 (k+1) x y (by simpa using a) (by simpa using b)⟩
           exact⟨q,Nv (h1.2 0 a c rfl rfl) (h2.2 0 b d rfl rfl) hq,r,Nu t1 t2 hr,h⟩
def U5{agg:Bool}{ks:List K7}{a b c d:D}(h1:Rep ρ a c)(h2:Rep ρ b d){p:Bool}(h:R1 agg ks a b=some p):R1 agg ks c d=some p:=by
 unfold R1 at h ⊢;split at h
 ·rename_i e;rw[if_pos e];cases h1 <;> try (simp[lO]at h;done)
  rename_i az cs l1 g1;cases h2 <;> try (simp[lO]at h;done)
  rename_i bs ds l2 g2;exact Nu ⟨l1,g1⟩ ⟨l2,g2⟩ h
 ·rename_i e;rw[if_neg e];split at h
  ·exact Nv h1 h2 h
  ·cases h
theorem An(hσ:SRep ρ σe σ)(hH:HRep ρ he H){c:COp}{d:D}(h:bU c σe he=some d){K:D->Prop}(hK:∀d',Rep ρ d d'->K d'):ah c σ H K:=by
 cases c <;> try (cases h;done)
 case mv x=>cases h;exact hK _ (aG hσ x)
 case pick c x y=>
  simp only[bU,fR,mR,BO,fS,mK,mS,mP,mQ,mJ,mL,fT,dj,BG,BN,mN,BM,BJ,mO,mM,BI,BK,BH,A5,BL]at h;simp only[ah];have hc:=aG hσ c;generalize ev σe c=a at h hc;generalize ev σ c=b at hc;cases hc <;> try (cases h;done)
  rename_i v;cases v <;> try (cases h;done)
  rename_i t;cases t
  ·cases h;exact⟨λe=>(by cases e),λ_=>hK _ (aG hσ y)⟩
  ·cases h;exact⟨λ_=>hK _ (aG hσ x),λe=>(by cases e)⟩
 case box el im x=>
  cases im
  ·cases h
  ·simp only[bU,fR,mR,BO,fS,mK,mS,mP,mQ,mJ,mL,fT,dj,BG,BN,mN,BM,BJ,mO,mM,BI,BK,BH,A5,BL]at h;split at h
   ·rename_i hk;cases h;have hx:=aG hσ x;exact⟨hx.kn hk,hK _ (.cptr _ _ _ (hx.cells hk).1 (hx.cells hk).2)⟩
   ·cases h
 case build z ps=>
  simp only[bU,qjH]at h;obtain⟨cs,h,rfl⟩:=h;exact FK hσ ps _ _ cs (CQ z) h λds hd=>hK _ (.agg _ _ hd.1 hd.2)
 case bslice el n ps=>
  simp only[bU,fR,mR,BO,fS,mK,mS,mP,mQ,mJ,mL,fT,dj,BG,BN,mN,BM,BJ,mO,mM,BI,BK,BH,A5,BL]at h;split at h
  ·rename_i hp;cases h;have hr:=rG hσ ps;exact⟨uy hr hp,hK _ (.list _ _ _ hr.1 hr.2)⟩
  ·cases h
 case load agg sz x=>
  simp only[bU,fR,mR,BO,fS,mK,mS,mP,mQ,mJ,mL,fT,dj,BG,BN,mN,BM,BJ,mO,mM,BI,BK,BH,A5,BL]at h;simp only[ah];have hx:=aG hσ x;generalize ev σe x=a at h hx;generalize ev σ x=b at hx;cases hx <;> try (cases h;done)
  ·rename_i cs ds off hl hc;dsimp only at h ⊢;split at h
   ·rename_i hb;cases h;exact⟨by rw[<-hl];exact hb,hK _ (GJ ⟨hl,hc⟩ _ _ _)⟩
   ·cases h
  ·rename_i id n off x b hn;dsimp only at h ⊢;split at h
   ·rename_i b' cs hg;split at h
    ·rename_i hb;simp only[qjE,decide_eq_true_eq]at hb;obtain⟨r',h1,h2⟩:=hH _ _ hg;cases h;rw[h1];cases h2 with
     | box n' cs ds x' b2 hn' hc=>
       have e:=Nat.eq_of_beq_eq_true hb.1;subst e;rw[hn]at hn';cases hn';exact⟨rfl,by rw[<-hc.1];exact hb.2,hK _ (GJ hc _ _ _)⟩
    ·cases h
   ·cases h
  ·rename_i id n w i off x b hn;dsimp only at h ⊢;split at h
   ·rename_i x' el n' es hg;split at h
    ·rename_i hb;simp only[qjE,decide_eq_true_eq]at hb;obtain⟨r',h1,h2⟩:=hH _ _ hg;rw[h1];cases h2 with
     | row m el w' cs ds y b2 hm hc=>
       have e:=Nat.eq_of_beq_eq_true hb.1.2;subst e;have ex:=xF hb.1.1 hm hn;subst ex;split at h
       ·rename_i d0 hd0;split at h
        ·rename_i hk;cases h;obtain⟨d1,hd1,hr⟩:=hc.get hd0;refine⟨rfl,rfl,hb.2,(qjA.1 hd1).1,λd hd=>?_⟩;rw[hd1]at hd;cases hd;exact hK _ (GJ (hr.cells hk) _ _ _)
        ·cases h
       ·cases h
    ·cases h
   ·cases h
 case nilck x=>
  simp only[bU,fR,mR,BO,fS,mK,mS,mP,mQ,mJ,mL,fT,dj,BG,BN,mN,BM,BJ,mO,mM,BI,BK,BH,A5,BL]at h;simp only[ah];have hx:=aG hσ x;generalize ev σe x=a at h hx;generalize ev σ x=b at hx;cases hx <;> try (cases h;done)
  ·rename_i cs ds off hl hc;cases h;exact hK _ (.cptr _ _ _ hl hc)
  ·rename_i hn;cases h;exact hK _ (.bptr _ _ _ _ _ hn)
  ·rename_i hn;cases h;exact hK _ (.eptr _ _ _ _ _ _ _ hn)
 case arith op x y=>
  simp only[bU,fR,mR,BO,fS,mK,mS,mP,mQ,mJ,mL,fT,dj,BG,BN,mN,BM,BJ,mO,mM,BI,BK,BH,A5,BL]at h;simp only[ah];have hx:=aG hσ x;have hy:=aG hσ y;generalize ev σe x=a at h hx;generalize ev σ x=b at hx;generalize ev σe y=a' at h hy;generalize ev σ y=b' at hy;cases hx <;> try (cases h;done)
  rename_i v;cases v <;> try (cases h;done)
  cases hy <;> try (cases h;done)
  rename_i v;cases v <;> try (cases h;done)
  dsimp only at h ⊢;split at h
  ·rename_i hk;simp only[qjH]at h;obtain⟨n,h,rfl⟩:=h;exact⟨UE hk,Ym h (hK _ (.v _))⟩
  ·cases h
 case cmp op x y=>
  simp only[bU,fR,mR,BO,fS,mK,mS,mP,mQ,mJ,mL,fT,dj,BG,BN,mN,BM,BJ,mO,mM,BI,BK,BH,A5,BL]at h;simp only[ah];have hx:=aG hσ x;have hy:=aG hσ y;generalize ev σe x=a at h hx;generalize ev σ x=b at hx;generalize ev σe y=a' at h hy;generalize ev σ y=b' at hy;cases hx <;> try (cases h;done)
  rename_i v;cases v <;> try (cases h;done)
  all_goals
   cases hy <;> try (cases h;done)
   rename_i v;cases v <;> try (cases h;done)
   dsimp only at h ⊢
  ·split at h
   ·rename_i hk;simp only[qjH]at h;obtain⟨t,h,rfl⟩:=h;rw[h];exact⟨hk,hK _ (.v _)⟩
   ·cases h
  ·simp only[qjH]at h;obtain⟨t,h,rfl⟩:=h;rw[h];exact hK _ (.v _)
 case eql neg agg ks x y=>
  simp only[bU,qjH]at h;obtain⟨p,h,rfl⟩:=h;simp only[ah];rw[U5 (aG hσ x) (aG hσ y) h];exact hK _ (.v _)
 case scat x y=>
  simp only[bU,fR,mR,BO,fS,mK,mS,mP,mQ,mJ,mL,fT,dj,BG,BN,mN,BM,BJ,mO,mM,BI,BK,BH,A5,BL]at h;simp only[ah];have hx:=aG hσ x;have hy:=aG hσ y;generalize ev σe x=a at h hx;generalize ev σ x=b at hx;generalize ev σe y=a' at h hy;generalize ev σ y=b' at hy;cases hx <;> try (cases h;done)
  rename_i v;cases v <;> try (cases h;done)
  cases hy <;> try (cases h;done)
  rename_i v;cases v <;> try (cases h;done)
  dsimp only at h ⊢;split at h
  ·rename_i hk;cases h;exact⟨hk,hK _ (.v _)⟩
  ·cases h
 case not x=>
  simp only[bU,fR,mR,BO,fS,mK,mS,mP,mQ,mJ,mL,fT,dj,BG,BN,mN,BM,BJ,mO,mM,BI,BK,BH,A5,BL]at h;simp only[ah];have hx:=aG hσ x;generalize ev σe x=a at h hx;generalize ev σ x=b at hx;cases hx <;> try (cases h;done)
  rename_i v;cases v <;> try (cases h;done)
  cases h;exact hK _ (.v _)
 case neg x=>
  simp only[bU,fR,mR,BO,fS,mK,mS,mP,mQ,mJ,mL,fT,dj,BG,BN,mN,BM,BJ,mO,mM,BI,BK,BH,A5,BL]at h;simp only[ah];have hx:=aG hσ x;generalize ev σe x=a at h hx;generalize ev σ x=b at hx;cases hx <;> try (cases h;done)
  rename_i v;cases v <;> try (cases h;done)
  dsimp only at h ⊢;split at h
  ·rename_i hk;cases h;exact⟨Hl hk,hK _ (.v _)⟩
  ·cases h
 case conv k x=>
  simp only[bU,fR,mR,BO,fS,mK,mS,mP,mQ,mJ,mL,fT,dj,BG,BN,mN,BM,BJ,mO,mM,BI,BK,BH,A5,BL]at h;simp only[ah];have hx:=aG hσ x;generalize ev σe x=a at h hx;generalize ev σ x=b at hx;cases hx <;> try (cases h;done)
  rename_i v;cases v <;> try (cases h;done)
  cases h;exact hK _ (.v _)
 case clo f caps=>
  cases h;have hr:=rG hσ caps;exact hK _ (.clo _ _ _ hr.1 hr.2)
 case slice n x lo hi=>
  simp only[bU,fR,mR,BO,fS,mK,mS,mP,mQ,mJ,mL,fT,dj,BG,BN,mN,BM,BJ,mO,mM,BI,BK,BH,A5,BL]at h;simp only[ah];have hx:=aG hσ x;generalize ev σe x=a at h hx;generalize ev σ x=b at hx;cases hx <;> try (cases h;done)
  ·rename_i n' cs ds hl hc;dsimp only at h ⊢;split at h
   ·rename_i hn;simp only[qjH]at h;obtain⟨p,h,rfl⟩:=h;refine⟨Nat.eq_of_beq_eq_true hn,?_⟩;have hrl:RepL ρ cs ds:=⟨hl,hc⟩
    have hKp:K (.list n ((ds.take p.2).drop p.1)):=hK _ (.list _ _ _ ((hrl.take p.2).drop p.1).1 ((hrl.take p.2).drop p.1).2);rw[hl]at h;have hv:=HL hσ h (K:=λl h=>l=p.1/\h=p.2) ⟨rfl,rfl⟩;generalize (lo.map λo=>iB (ev σ o))=a at hv ⊢;generalize (hi.map λo=>iB (ev σ o))=b at hv ⊢;rcases a with _|_|⟨k1,l1⟩ <;> rcases b with _|_|⟨k2,l2⟩ <;> simp only[lK]at hv ⊢ <;> try (exact hv.elim)
    ·rw[<-hv.1,<-hv.2,qkl,List.drop_zero]at hKp;exact hKp
    ·rw[<-hv.2.2.1,<-hv.2.2.2,List.drop_zero]at hKp;exact⟨hv.1,hv.2.1,hKp⟩
    ·rw[<-hv.2.2.1,<-hv.2.2.2,qkl]at hKp;exact⟨hv.1,hv.2.1,hKp⟩
    ·rw[<-hv.2.2.2.1,<-hv.2.2.2.2]at hKp;exact⟨hv.1,hv.2.1,hv.2.2.1,hKp⟩
   ·cases h
  ·rename_i id m x b hn;dsimp only at h ⊢;split at h
   ·rename_i x' el n' es hg;split at h
    ·rename_i hb;simp only[qjE]at hb;simp only[qjH]at h;obtain⟨p,h,rfl⟩:=h;obtain⟨r',h1,h2⟩:=hH _ _ hg;rw[h1];cases h2 with
     | row m' el w' cs ds y b2 hm hc=>
       have e:=Nat.eq_of_beq_eq_true hb.2;subst e;have ex:=xF hb.1 hm hn;subst ex;rw[hc.1]at h;exact⟨rfl,rfl,HL hσ h (hK _ (.sub _ _ _ _ _ _ _ hn))⟩
    ·cases h
   ·cases h
 case sslice x lo hi=>
  simp only[bU,fR,mR,BO,fS,mK,mS,mP,mQ,mJ,mL,fT,dj,BG,BN,mN,BM,BJ,mO,mM,BI,BK,BH,A5,BL]at h;simp only[ah];have hx:=aG hσ x;generalize ev σe x=a at h hx;generalize ev σ x=b at hx;cases hx <;> try (cases h;done)
  rename_i v;cases v <;> try (cases h;done)
  rename_i s;simp only[qjH]at h;obtain⟨p,h,rfl⟩:=h;have hKp:K (.v (.string (s.extract p.1 p.2))):=hK _ (.v _);have hv:=HL hσ h (K:=λl h=>l=p.1/\h=p.2) ⟨rfl,rfl⟩;dsimp only;generalize (lo.map λo=>iB (ev σ o))=a at hv ⊢;generalize (hi.map λo=>iB (ev σ o))=b at hv ⊢;rcases a with _|_|⟨k1,l1⟩ <;> rcases b with _|_|⟨k2,l2⟩ <;> simp only[lK]at hv ⊢ <;> try (exact hv.elim)
  ·rw[<-hv.1,<-hv.2]at hKp;exact hKp
  ·rw[<-hv.2.2.1,<-hv.2.2.2]at hKp;exact⟨hv.1,hv.2.1,hKp⟩
  ·rw[<-hv.2.2.1,<-hv.2.2.2]at hKp;exact⟨hv.1,hv.2.1,hKp⟩
  ·rw[<-hv.2.2.2.1,<-hv.2.2.2.2]at hKp;exact⟨hv.1,hv.2.1,hv.2.2.1,hKp⟩
 case faddr off x=>
  simp only[bU,fR,mR,BO,fS,mK,mS,mP,mQ,mJ,mL,fT,dj,BG,BN,mN,BM,BJ,mO,mM,BI,BK,BH,A5,BL]at h;simp only[ah];have hx:=aG hσ x;generalize ev σe x=a at h hx;generalize ev σ x=b at hx;cases hx <;> try (cases h;done)
  ·rename_i cs ds off hl hc;cases h;exact hK _ (.cptr _ _ _ hl hc)
  ·rename_i hn;cases h;exact hK _ (.bptr _ _ _ _ _ hn)
  ·rename_i hn;cases h;exact hK _ (.eptr _ _ _ _ _ _ _ hn)
 case fld agg sz off x=>
  simp only[bU,fR,mR,BO,fS,mK,mS,mP,mQ,mJ,mL,fT,dj,BG,BN,mN,BM,BJ,mO,mM,BI,BK,BH,A5,BL]at h;simp only[ah];have hx:=aG hσ x;generalize ev σe x=a at h hx;generalize ev σ x=b at hx;cases hx <;> try (cases h;done)
  rename_i cs ds hl hc;dsimp only at h ⊢;split at h
  ·rename_i hb;cases h;exact⟨by rw[<-hl];exact hb,hK _ (GJ ⟨hl,hc⟩ _ _ _)⟩
  ·cases h
 case iaddr n x i=>
  simp only[bU,fR,mR,BO,fS,mK,mS,mP,mQ,mJ,mL,fT,dj,BG,BN,mN,BM,BJ,mO,mM,BI,BK,BH,A5,BL]at h;simp only[ah];have hi:=aG hσ i;generalize ev σe i=a at h hi;generalize ev σ i=b at hi;cases hi <;> try (cases h;done)
  rename_i v;cases v <;> try (cases h;done)
  rename_i k;dsimp only at h ⊢;have hx:=aG hσ x;generalize ev σe x=a at h hx;generalize ev σ x=b at hx;cases hx <;> try (cases h;done)
  ·rename_i n' cs ds hl hc;dsimp only at h ⊢;split at h
   ·rename_i hb;simp only[qjE,decide_eq_true_eq]at hb;split at h
    ·rename_i d0 hd0;split at h
     ·rename_i hk;cases h;obtain⟨d1,hd1,hr⟩:=RepL.get ⟨hl,hc⟩ hd0;have hlt:=(qjA.1 hd1).1;refine⟨Nat.eq_of_beq_eq_true hb.1,hb.2,by omega,λd hd=>?_⟩;rw[hd1]at hd;cases hd;exact hK _ (.cptr _ _ _ (hr.cells hk).1 (hr.cells hk).2)
     ·cases h
    ·cases h
   ·cases h
  ·rename_i id m x b hn;dsimp only at h ⊢;split at h
   ·rename_i x' el n' es hg;split at h
    ·rename_i hb;simp only[qjE,decide_eq_true_eq]at hb;cases h;obtain⟨r',h1,h2⟩:=hH _ _ hg;rw[h1];cases h2 with
     | row m' el w' cs ds y b2 hm hc=>
       have e:=Nat.eq_of_beq_eq_true hb.1.1.2;subst e;have ex:=xF hb.1.1.1 hm hn;subst ex;exact⟨rfl,rfl,hb.1.2,by rw[<-hc.1];exact hb.2,hK _ (.eptr _ _ _ _ _ _ _ hn)⟩
    ·cases h
   ·cases h
  ·rename_i id m w lo hi x b hn;dsimp only at h ⊢;split at h
   ·rename_i hb;simp only[qjE,decide_eq_true_eq]at hb;cases h;exact⟨Nat.eq_of_beq_eq_true hb.1.1,hb.1.2,hb.2,hK _ (.eptr _ _ _ _ _ _ _ hn)⟩
   ·cases h
 case sidx x i=>
  simp only[bU,fR,mR,BO,fS,mK,mS,mP,mQ,mJ,mL,fT,dj,BG,BN,mN,BM,BJ,mO,mM,BI,BK,BH,A5,BL]at h;simp only[ah];have hi:=aG hσ i;generalize ev σe i=a at h hi;generalize ev σ i=b at hi;cases hi <;> try (cases h;done)
  rename_i v;cases v <;> try (cases h;done)
  rename_i k;dsimp only at h ⊢;have hx:=aG hσ x;generalize ev σe x=a at h hx;generalize ev σ x=b at hx;cases hx <;> try (cases h;done)
  rename_i v;cases v <;> try (cases h;done)
  rename_i s;dsimp only at h ⊢;split at h
  ·rename_i h0;simp only[decide_eq_true_eq]at h0;simp only[qjH]at h;obtain⟨c,hc,rfl⟩:=h;have hlt:k.toNat < s.size:=(qjG.1 hc).1;refine⟨h0,by omega,λc' hc'=>?_⟩;rw[hc]at hc';cases hc';exact hK _ (.v _)
  ·cases h
 case ext x i=>
  simp only[bU,fR,mR,BO,fS,mK,mS,mP,mQ,mJ,mL,fT,dj,BG,BN,mN,BM,BJ,mO,mM,BI,BK,BH,A5,BL]at h;simp only[ah];have hx:=aG hσ x;generalize ev σe x=a at h hx;generalize ev σ x=b at hx;cases hx <;> try (cases h;done)
  rename_i cs ds hl hc;dsimp only at h ⊢;obtain⟨d1,hd1,hr⟩:=RepL.get ⟨hl,hc⟩ h;rw[hd1];exact hK _ hr
 case len x=>
  simp only[bU,fR,mR,BO,fS,mK,mS,mP,mQ,mJ,mL,fT,dj,BG,BN,mN,BM,BJ,mO,mM,BI,BK,BH,A5,BL]at h;simp only[ah];have hx:=aG hσ x;generalize ev σe x=a at h hx;generalize ev σ x=b at hx;cases hx <;> try (cases h;done)
  ·rename_i v;cases v <;> try (cases h;done)
   cases h;exact hK _ (.v _)
  ·rename_i n' cs ds hl hc;cases h;dsimp only;rw[hl]at hK;exactλ_=>hK _ (.v _)
  ·rename_i id m x b hn;dsimp only at h ⊢;split at h
   ·rename_i x' el n' es hg;split at h
    ·rename_i hb;cases h;obtain⟨r',h1,h2⟩:=hH _ _ hg;rw[h1];cases h2 with
     | row m' el w' cs ds y b2 hm hc=>
       have ex:=xF hb hm hn;subst ex;rw[hc.1]at hK;exact⟨rfl,λ_=>hK _ (.v _)⟩
    ·cases h
   ·cases h
  ·cases h;exactλ_=>hK _ (.v _)
 case slen x=>
  simp only[bU,fR,mR,BO,fS,mK,mS,mP,mQ,mJ,mL,fT,dj,BG,BN,mN,BM,BJ,mO,mM,BI,BK,BH,A5,BL]at h;simp only[ah];have hx:=aG hσ x;generalize ev σe x=a at h hx;generalize ev σ x=b at hx;cases hx <;> try (cases h;done)
  rename_i v;cases v <;> try (cases h;done)
  cases h;exactλ_=>hK _ (.v _)
 case rstr x=>
  simp only[bU,fR,mR,BO,fS,mK,mS,mP,mQ,mJ,mL,fT,dj,BG,BN,mN,BM,BJ,mO,mM,BI,BK,BH,A5,BL]at h;simp only[ah];have hx:=aG hσ x;generalize ev σe x=a at h hx;generalize ev σ x=b at hx;cases hx <;> try (cases h;done)
  rename_i v;cases v <;> try (cases h;done)
  cases h;exact hK _ (.v _)
 case srunes x=>
  simp only[bU,fR,mR,BO,fS,mK,mS,mP,mQ,mJ,mL,fT,dj,BG,BN,mN,BM,BJ,mO,mM,BI,BK,BH,A5,BL]at h;simp only[ah];have hx:=aG hσ x;generalize ev σe x=a at h hx;generalize ev σ x=b at hx;cases hx <;> try (cases h;done)
  rename_i v;cases v <;> try (cases h;done)
  dsimp only at h ⊢;split at h
  ·rename_i hs;cases h;refine⟨hs,hK _ (.list _ _ _ rfl (RepL.same λd hd=>?_).2)⟩;obtain⟨y,_,rfl⟩:=qjN.1 hd;exact .v _
  ·cases h
 case sbytes x=>
  simp only[bU,A5]at h;simp only[ah];have hx:=aG hσ x;generalize ev σe x=a at h hx;generalize ev σ x=b at hx;cases hx <;> try (cases h;done)
  rename_i v;cases v <;> try (cases h;done)
  cases h;refine hK _ (.list _ _ _ rfl (RepL.same λd hd=>?_).2);obtain⟨y,_,rfl⟩:=qjN.1 hd;exact .v _
 case mm mx xs=>
  match xs,h with
  | [x,y],h=>
    simp only[bU,fR,mR,BO,fS,mK,mS,mP,mQ,mJ,mL,fT,dj,BG,BN,mN,BM,BJ,mO,mM,BI,BK,BH,A5,BL]at h;simp only[ah];have hx:=aG hσ x;have hy:=aG hσ y;generalize ev σe x=a at h hx;generalize ev σ x=b at hx;generalize ev σe y=a' at h hy;generalize ev σ y=b' at hy;cases hx <;> try (cases h;done)
    rename_i v;cases v <;> try (cases h;done)
    cases hy <;> try (cases h;done)
    rename_i v;cases v <;> try (cases h;done)
    dsimp only at h ⊢;split at h
    ·rename_i hk;cases h;exact⟨hk,hK _ (.v _)⟩
    ·cases h
end
end X
end Go.Gv
