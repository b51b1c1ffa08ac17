/- T50 -/
import Derived.Test.YtfpmgnnippjblaaGreatDoorGc12
set_option linter.all false
namespace Go.Gv
namespace X
abbrev VL:=List (Value×Nat)
abbrev nm(n:Nat):Value:= .int .i64 n
inductive Rep (ρ:VL):D->D->Prop
 |any (d:D):Rep ρ .any d
 |undef:Rep ρ .undef .undef
 |v (x:Value):Rep ρ (.v x) (.v x)
 |agg (cs ds:List D) (hl:cs.length=ds.length) (h:∀(k:Nat) (c d:D),cs[k]? =some c->ds[k]? =some d->Rep ρ c d):Rep ρ (.agg cs) (.agg ds)
 |tup (cs ds:List D) (hl:cs.length=ds.length) (h:∀(k:Nat) (c d:D),cs[k]? =some c->ds[k]? =some d->Rep ρ c d):Rep ρ (.tup cs) (.tup ds)
 |list (n:Nat) (cs ds:List D) (hl:cs.length=ds.length) (h:∀(k:Nat) (c d:D),cs[k]? =some c->ds[k]? =some d->Rep ρ c d):Rep ρ (.list n cs) (.list n ds)
 |cptr (cs ds:List D) (off:Nat) (hl:cs.length=ds.length) (h:∀(k:Nat) (c d:D),cs[k]? =some c->ds[k]? =some d->Rep ρ c d):Rep ρ (.cptr cs off) (.cptr ds off)
 |clo (f:Nat) (cs ds:List D) (hl:cs.length=ds.length) (h:∀(k:Nat) (c d:D),cs[k]? =some c->ds[k]? =some d->Rep ρ c d):Rep ρ (.clo f cs) (.clo f ds)
 |own (id n:Nat) (x:Value) (b:Nat) (h:ρ[n]? =some (x,b)):Rep ρ (.own id (nm n)) (.own id x)
 |bptr (id n off:Nat) (x:Value) (b:Nat) (h:ρ[n]? =some (x,b)):Rep ρ (.bptr id n off) (.bptr id b off)
 |eptr (id n w i off:Nat) (x:Value) (b:Nat) (h:ρ[n]? =some (x,b)):Rep ρ (.eptr id (nm n) w i off) (.eptr id x w i off)
 |sub (id n w lo hi:Nat) (x:Value) (b:Nat) (h:ρ[n]? =some (x,b)):Rep ρ (.sub id (nm n) w lo hi) (.sub id x w lo hi)
def RepL(ρ:VL)(cs ds:List D):Prop:=cs.length=ds.length/\∀(k:Nat) (c d:D),cs[k]? =some c->ds[k]? =some d->Rep ρ c d
inductive RepR (ρ:VL):Res->Res->Prop
 |box (n:Nat) (cs ds:List D) (x:Value) (b:Nat) (h:ρ[n]? =some (x,b)) (hc:RepL ρ cs ds):RepR ρ (.box n cs) (.box b ds)
 |row (n el w:Nat) (cs ds:List D) (x:Value) (b:Nat) (h:ρ[n]? =some (x,b)) (hc:RepL ρ cs ds):RepR ρ (.row (nm n) el w cs) (.row x el w ds)
 |iter (n:Nat) (s:ByteArray) (p:Nat) (x:Value) (b:Nat) (h:ρ[n]? =some (x,b)):RepR ρ (.iter n s p) (.iter b s p)
def Rep.mono{ρ a:VL}(hp:ρ <+:a){c d:D}(h:Rep ρ c d):Rep a c d:=by
 have up:∀{n:Nat} {y:Value×Nat},ρ[n]? =some y->a[n]? =some y:=λ{n y} h=>by
  obtain⟨l,rfl⟩:=hp;grind
 induction h<;>grind [X.Rep]
def RepL.mono{ρ a:VL}(hp:ρ <+:a){cs ds:List D}(h:RepL ρ cs ds):RepL a cs ds:=⟨h.1,λk c d h1 h2=>(h.2 k c d h1 h2).mono hp⟩
def RepR.mono{ρ a:VL}(hp:ρ <+:a){r s:Res}(h:RepR ρ r s):RepR a r s:=by
 have up:∀{n:Nat} {y:Value×Nat},ρ[n]? =some y->a[n]? =some y:=λ{n y} h=>by
  obtain⟨l,rfl⟩:=hp;grind
 cases h with
 |box n cs ds x b h hc=>exact .box n cs ds x b (up h) (hc.mono hp)
 |row n el w cs ds x b h hc=>exact .row n el w cs ds x b (up h) (hc.mono hp)
 |iter n s p x b h=>grind [X.RepR]
section
variable {ρ:VL}
def RepL.nil:RepL ρ [] []:=⟨rfl,λk c d h=>by simp⟩
def RepL.cons{c d:D}{cs ds:List D}(h:Rep ρ c d)(hl:RepL ρ cs ds):RepL ρ (c::cs) (d::ds):=⟨by simp[hl.1],λk a b h1 h2=>by
 grind [X.RepL]⟩
def RepL.get{cs ds:List D}(h:RepL ρ cs ds){k:Nat}{c:D}(hc:cs[k]? =some c):∃d,ds[k]? =some d/\Rep ρ c d:=by
 grind [X.RepL]
def RepL.append{a b c d:List D}(h:RepL ρ a b)(k:RepL ρ c d):RepL ρ (a++c) (b++d):=⟨by simp[h.1,k.1],λi x y h1 h2=>by
 by_cases hi:i<a.length;grind [X.RepL];grind [X.RepL]⟩
def RepL.take{a b:List D}(h:RepL ρ a b)(n:Nat):RepL ρ (a.take n) (b.take n):=⟨by simp[h.1],λi x y h1 h2=>by
 rw[qGo]at h1 h2;split at h1
 ·rename_i hi;rw[if_pos hi]at h2;exact h.2 i x y h1 h2
 grind⟩
def RepL.drop{a b:List D}(h:RepL ρ a b)(n:Nat):RepL ρ (a.drop n) (b.drop n):=⟨by simp[h.1],λi x y h1 h2=>by
 grind [X.RepL]⟩
def RepL.set{a b:List D}(h:RepL ρ a b){n:Nat}{c d:D}(hc:Rep ρ c d):RepL ρ (a.set n c) (b.set n d):=⟨by simp[h.1],λi x y h1 h2=>by
 rw[List.getElem?_set]at h1 h2;split at h1;grind
 ·rename_i e;rw[if_neg e]at h2;exact h.2 i x y h1 h2⟩
def RepL.same:∀{l:List D},(∀d∈l,Rep ρ d d)->RepL ρ l l
 | [],_=> .nil
 |d::l,h=> .cons (h d (by simp)) (RepL.same λd a=>h d (by grind))
def RepL.rep{c d:D}(h:Rep ρ c d):∀n,RepL ρ (List.replicate n c) (List.replicate n d)
 | 0=> .nil
 |n+1=> .cons h (RepL.rep h n)
theorem Vq(x:Value):Rep ρ (rk x) (rk x):=by
 cases x<;>first|exact .v _|exact .any _
def O3(z:List Value):RepL ρ (z.map rk) (z.map rk):=RepL.same λd a=>by
 grind [Vq]
theorem Rep.kn{c d:D}(h:Rep ρ c d)(hk:c.kn=true):d.kn=true:=by
 grind [D.kn,X.Rep]
theorem Rep.cells{c d:D}(h:Rep ρ c d)(hk:c.kn=true):RepL ρ c.cells d.cells:=by
 cases h with
 |agg cs ds hl h=>exact⟨hl,h⟩
 |any d=>cases hk
 |undef=>simp_all
 |v x=>exact .cons (.v x) .nil
 |tup cs ds hl h=>simp_all
 |list n cs ds hl h=>exact .cons (.list n cs ds hl h) .nil
 |cptr cs ds off hl h=>exact .cons (.cptr cs ds off hl h) .nil
 |clo f cs ds hl h=>exact .cons (.clo f cs ds hl h) .nil
 |own id n x b h=>exact .cons (.own id n x b h) .nil
 |bptr id n off x b h=>exact .cons (.bptr id n off x b h) .nil
 |eptr id n w i off x b h=>exact .cons (.eptr id n w i off x b h) .nil
 |sub id n w lo hi x b h=>exact .cons (.sub id n w lo hi x b h) .nil
def Vp{cs ds:List D}(h:RepL ρ cs ds)(agg:Bool)(sz off:Nat):Rep ρ (Nb agg sz cs off) (Nb agg sz ds off):=by
 grind [X.Rep,X.RepL,Nb]
def Kw{a b c d:List D}(h:RepL ρ a b)(k:RepL ρ c d)(off:Nat):RepL ρ (setAt a off c) (setAt b off d):=by
 grind [X.RepL,setAt]
def qnt{c d:D}(h:Rep ρ c d){p:IntKind×Int}(hp:mM c=some p):d=c:=by
 grind [X.Rep,mM]
end
inductive Tr (α:Type) where
 |e
 |n (v:Option α) (l r:Tr α)
namespace Tr
variable {α:Type}
noncomputable def get(t:Tr α):Nat->Option α:=Tr.rec (motive:=λ_=>Nat->Option α) (λ_=>none)
 (λv _ _ a b k=>Bool.rec (Bool.rec (b (Nat.div (Nat.sub k 2) 2)) (a (Nat.div (Nat.sub k 1) 2)) (Nat.beq (Nat.mod k 2) 1)) v (Nat.beq k 0)) t
def val:Tr α->Option α
 | .e=>none
 | .n v _ _=>v
def lf:Tr α->Tr α
 | .e=> .e
 | .n _ l _=>l
def rt:Tr α->Tr α
 | .e=> .e
 | .n _ _ r=>r
noncomputable def Y5(d:Nat):Tr α->Nat->Option α->Tr α:=Nat.rec (motive:=λ_=>Tr α->Nat->Option α->Tr α) (λ_ _ _=> .e)
 (λ_ a t k v=>Bool.rec (Bool.rec (.n t.val t.lf (a t.rt (Nat.div (Nat.sub k 2) 2) v)) (.n t.val (a t.lf (Nat.div (Nat.sub k 1) 2) v) t.rt) (Nat.beq (Nat.mod k 2) 1)) (.n v t.lf t.rt) (Nat.beq k 0)) d
noncomputable def set(t:Tr α)(k:Nat)(v:α):Tr α:=Y5 14 t k (some v)
noncomputable def del(t:Tr α)(k:Nat):Tr α:=Y5 14 t k none
noncomputable def map(f:α->α)(t:Tr α):Tr α:=Tr.rec (motive:=λ_=>Tr α) .e (λv _ _ l r=> .n (Option.rec none (λa=>some (f a)) v) l r) t
theorem get_e(k:Nat):get (.e:Tr α) k=none:=rfl
theorem get_n(v:Option α)(l r:Tr α)(k:Nat):get (.n v l r) k=if k=0 then v else if k % 2=1 then get l ((k -1) /2)else get r ((k -2) /2):=by
 show Bool.rec (motive:=λ_=>Option α) (Bool.rec (motive:=λ_=>Option α) (get r (Nat.div (Nat.sub k 2) 2)) (get l (Nat.div (Nat.sub k 1) 2)) (Nat.beq (Nat.mod k 2) 1)) v (Nat.beq k 0)=_;cases h:Nat.beq k 0 with
 |true=>simp_all
 | false=>
   rw[if_neg (Nat.ne_of_beq_eq_false h)];cases h2:Nat.beq (Nat.mod k 2) 1 with
   |true=>rw[if_pos (show k % 2=1 from Nat.eq_of_beq_eq_true h2)];rfl
   |false=>rw[if_neg (show ¬k % 2=1 from Nat.ne_of_beq_eq_false h2)];rfl
def qg6(t:Tr α)(k:Nat):get t k=if k=0 then t.val else if k % 2=1 then get t.lf ((k -1) /2)else get t.rt ((k -2) /2):=by
 cases t<;>grind [get_e,val,lf,rt,get_n]
theorem qqK(d:Nat)(t:Tr α)(k:Nat)(v:Option α):Y5 (d+1) t k v=if k=0 then .n v t.lf t.rt else if k % 2=1 then .n t.val (Y5 d t.lf ((k -1) /2) v) t.rt else .n t.val t.lf (Y5 d t.rt ((k -2) /2) v):=by
 show Bool.rec (motive:=λ_=>Tr α) (Bool.rec (motive:=λ_=>Tr α) (Tr.n t.val t.lf (Y5 d t.rt (Nat.div (Nat.sub k 2) 2) v)) (.n t.val (Y5 d t.lf (Nat.div (Nat.sub k 1) 2) v) t.rt) (Nat.beq (Nat.mod k 2) 1)) (.n v t.lf t.rt) (Nat.beq k 0)=_;cases h:Nat.beq k 0 with
 |true=>simp_all
 | false=>
   rw[if_neg (Nat.ne_of_beq_eq_false h)];cases h2:Nat.beq (Nat.mod k 2) 1 with
   |true=>rw[if_pos (show k % 2=1 from Nat.eq_of_beq_eq_true h2)];rfl
   |false=>rw[if_neg (show ¬k % 2=1 from Nat.ne_of_beq_eq_false h2)];rfl
def IW{v:Option α} :∀(d:Nat) (t:Tr α) (k j:Nat) (r:α),get (Y5 d t k v) j=some r->(j=k/\v=some r)\/(j≠k/\get t j=some r)
 | 0,t,k,j,r,h=>by cases h
 | d+1,t,k,j,r,h=>by
   rw[qqK]at h;rw[qg6 t j];split at h
   ·rw[get_n]at h;grind
   ·split at h
    ·rw[get_n]at h;split at h;grind
     ·rename_i b;split at h
      ·rename_i a;rcases IW d _ _ _ _ h with⟨e,c⟩|⟨e,l⟩
       grind;grind
      grind
    ·rw[get_n]at h;split at h;grind
     ·rename_i b;split at h;grind
      ·rename_i a;rcases IW d _ _ _ _ h with⟨e,c⟩|⟨e,l⟩
       grind;grind
def get_set{t:Tr α}{k j:Nat}{v r:α}(h:get (set t k v) j=some r):(j=k/\r=v)\/(j≠k/\get t j=some r):=
 (IW 14 t k j r h).imp (λh=>⟨h.1,by grind⟩) id
def get_del{t:Tr α}{k j:Nat}{r:α}(h:get (del t k) j=some r):j≠k/\get t j=some r:=by
 rcases IW 14 t k j r h with⟨_,h⟩|h;grind;lia
def get_map(f:α->α):∀(t:Tr α) (k:Nat),get (map f t) k=(get t k).map f
 | .e,k=>rfl
 | .n v l r,k=>by
   show get (.n (Option.rec none (λa=>some (f a)) v) (map f l) (map f r)) k=_;rw[get_n,get_n];split
   ·cases v<;>rfl
   ·split
    ·exact get_map f l _
    ·exact get_map f r _
end Tr
abbrev HE:=Tr Res
def HRep(ρ:VL)(he:HE)(H:ab):Prop:=∀i r,he.get i=some r->∃r',H i=some r'/\RepR ρ r r'
def SRep(ρ:VL)(σe σ:Sg):Prop:=∀t,Rep ρ (σe t) (σ t)
section
variable {ρ:VL}{σe σ:Sg}{he:HE}{H:ab}
def HRep.mono{a:VL}(hp:ρ <+:a)(h:HRep ρ he H):HRep a he H:=λi r hi=>by
 let ⟨r',h1,h2⟩:=h i r hi
 exact⟨r',h1,h2.mono hp⟩
def HRep.set{r r':Res}{i:Nat}(h:HRep ρ he H)(c:RepR ρ r r'):HRep ρ (he.set i r) (aj H i (some r')):=λj s a=>by
 unfold aj;rcases Tr.get_set a with⟨rfl,rfl⟩|⟨e,b⟩
 grind
 ·rw[if_neg e];exact h j s b
theorem bc(h:SRep ρ σe σ)(x:Operand):Rep ρ (ev σe x) (ev σ x):=by
 cases x with
 |tmp t=>exact h t
 |const x=>exact Vq x
 |global g=>exact .v _
 |func f=>exact .clo _ _ _ rfl (λk c d h=>by simp)
def A4(h:SRep ρ σe σ)(l:List Operand):RepL ρ (l.map (ev σe)) (l.map (ev σ)):=by
 grind [X.RepL,bc]
end
def qdU:Value->Value->Bool
 | .int _ a, .int _ b=>decide (a=b)
 | _,_=>false
def F2(n:Nat):List D->Bool
 | []=>true
 |d::r=>d.kn && Nat.beq d.cells.length n && F2 n r
def qcX:IntKind->Int->Bool
 | .i64,n=>decide (-9223372036854775808<=n) && decide (n<=9223372036854775807)
 | .i32,n=>decide (-2147483648<=n) && decide (n<=2147483647)
 | .i16,n=>decide (-32768<=n) && decide (n<=32767)
 | .i8,n=>decide (-128<=n) && decide (n<=127)
 | .u64,n=>decide (0<=n) && decide (n<=18446744073709551615)
 | .u32,n=>decide (0<=n) && decide (n<=4294967295)
 | .u16,n=>decide (0<=n) && decide (n<=65535)
 | .u8,n=>decide (0<=n) && decide (n<=255)
def qeR{k:IntKind}{n:Int}(h:qcX k n=true):InR k n:=by
 cases k<;>simpa [qcX,InR]using h
def qsu(op:BinOp)(k:IntKind)(a b:Int):Option Int:=match op with
 | .add=>if qcX k (a+b)then some (a+b)else none
 | .sub=>if qcX k (a -b)then some (a -b)else none
 | .mul=>if qcX k (a*b)then some (a*b)else none
 | .quo=>if decide (b≠0) && qcX k (a.tdiv b)then some (a.tdiv b)else none
 | .rem=>if b=0 then none else some (a.tmod b)
 | .and=>some (qbn k a b)
 | .or=>some (qtc k a b)
 | .shl=>if 0<=b then some (U1 k a b)else none
 | .shr=>if 0<=b then some (qcn k a b)else none
 | _=>none
def quV(op:BinOp)(k a:IntKind):Bool:=match op with
 | .shl| .shr=>true
 | _=>decide (k=a)
def Xf(σ:Sg):List (Nat×Nat×Operand)->List D->Option (List D)
 | [],cs=>some cs
 |(off,sz,x)::r,cs=>if(ev σ x).kn && Nat.beq (ev σ x).cells.length sz then Xf σ r (setAt cs off (ev σ x).cells)else none
def qlk(lo hi:Option (Option (IntKind×Int)))(len:Nat):Option (Nat×Nat):=match lo,hi with
 |none,none=>some (0,len)
 |some (some (_,l)),none=>if decide (0<=l) && decide (l<=len)then some (l.toNat,len)else none
 |none,some (some (_,h))=>if decide (0<=h) && decide (h<=len)then some (0,h.toNat)else none
 |some (some (_,l)),some (some (_,h))=>if decide (0<=l) && decide (l<=h) && decide (h<=len)then some (l.toNat,h.toNat)else none
 | _,_=>none
def qdP(c x y:D):Option D:=match c with
 | .v (.bool true)=>some x
 | .v (.bool false)=>some y
 | _=>none
def qmB(d:D):Option D:=if d.kn then some (.cptr d.cells 0)else none
def qxb(n:Nat)(ds:List D):Option D:=if F2 n ds then some (.list n ds)else none
noncomputable def qdQ(agg:Bool)(sz:Nat)(he:HE)(d:D):Option D:=match d with
 | .cptr cs off=>if off+sz<=cs.length then some (Nb agg sz cs off)else none
 | .bptr id b off=>match he.get id with
   |some (.box b' cs)=>if Nat.beq b' b && decide (off+sz<=cs.length)then some (Nb agg sz cs off)else none
   | _=>none
 | .eptr id x n i off=>match he.get id with
   | some (.row a _ c es)=>if qdU a x && Nat.beq c n && decide (off+sz<=n)then(match es[i]? with
     |some d=>if d.kn then some (Nb agg sz d.cells off)else none
     |none=>none)else none
   | _=>none
 | _=>none
def qmu(d:D):Option D:=match d with
 | .cptr cs off=>some (.cptr cs off)
 | .bptr id b off=>some (.bptr id b off)
 | .eptr id x n i off=>some (.eptr id x n i off)
 | _=>none
def qmC(op:BinOp)(x y:D):Option D:=match x,y with
 | .v (.int k a), .v (.int c b)=>if quV op k c then(qsu op k a b).map λn=> .v (.int k n)else none
 | _,_=>none
def qmz(op:BinOp)(x y:D):Option D:=match x,y with
 | .v (.int k a), .v (.int c b)=>if k=c then(Xa op a b).map λt=> .v (.bool t)else none
 | .v (.string a), .v (.string b)=>(qa1 op a b).map λt=> .v (.bool t)
 | _,_=>none
def qmA(x y:D):Option D:=match x,y with
 | .v (.string a), .v (.string b)=>if a.size+b.size<=1000000000 then some (.v (.string (a++b)))else none
 | _,_=>none
def qmt(x:D):Option D:=match x with
 | .v (.bool b)=>some (.v (.bool (!b)))
 | _=>none
def qmv(x:D):Option D:=match x with
 | .v (.int k n)=>if qcX k (0 -n)then some (.v (.int k (0 -n)))else none
 | _=>none
def qdR(k:IntKind)(x:D):Option D:=match x with
 | .v (.int _ n)=>some (.v (.int k (k.wrap n)))
 | _=>none
noncomputable def Ub(n:Nat)(he:HE)(lo hi:Option (Option (IntKind×Int)))(x:D):Option D:=match x with
 | .list a es=>if Nat.beq a n then(qlk lo hi es.length).map λp=> .list n ((es.take p.2).drop p.1)else none
 | .own id x=>match he.get id with
   |some (.row b _ a es)=>if qdU b x && Nat.beq a n then(qlk lo hi es.length).map λp=> .sub id x n p.1 p.2 else none
   | _=>none
 | _=>none
def qw2(lo hi:Option (Option (IntKind×Int)))(x:D):Option D:=match x with
 | .v (.string s)=>(qlk lo hi s.size).map λp=> .v (.string (s.extract p.1 p.2))
 | _=>none
def qw9(off:Nat)(x:D):Option D:=match x with
 | .cptr cs o=>some (.cptr cs (o+off))
 | .bptr id b o=>some (.bptr id b (o+off))
 | .eptr id x n i o=>some (.eptr id x n i (o+off))
 | _=>none
def qmx(agg:Bool)(sz off:Nat)(x:D):Option D:=match x with
 | .agg cs=>if off+sz<=cs.length then some (Nb agg sz cs off)else none
 | _=>none
noncomputable def qw8(n:Nat)(he:HE)(x i:D):Option D:=match i with
 | .v (.int _ k)=>match x with
   | .list a es=>if Nat.beq a n && decide (0<=k)then(match es[k.toNat]? with
     |some d=>if d.kn then some (.cptr d.cells 0)else none
     |none=>none)else none
   | .own id x=>match he.get id with
     |some (.row b _ a es)=>if qdU b x && Nat.beq a n && decide (0<=k) && decide (k<es.length)then some (.eptr id x n k.toNat 0)else none
     | _=>none
   | .sub id x a lo hi=>if Nat.beq a n && decide (0<=k) && decide (k<(hi -lo:Nat))then some (.eptr id x n (lo+k.toNat) 0)else none
   | _=>none
 | _=>none
def qw5(x i:D):Option D:=match i with
 | .v (.int _ k)=>match x with
   | .v (.string s)=>if decide (0<=k)then(s.data[k.toNat]?).map λc=> .v (.int .u8 c.toNat)else none
   | _=>none
 | _=>none
def qmy(x:D)(i:Nat):Option D:=match x with
 | .tup ds=>ds[i]?
 | _=>none
noncomputable def qmw(he:HE)(x:D):Option D:=match x with
 | .list _ es=>some (.v (.int .i64 es.length))
 | .own id x=>match he.get id with
   |some (.row a _ _ es)=>if qdU a x then some (.v (.int .i64 es.length))else none
   | _=>none
 | .v (.slice _ n _)=>some (.v (.int .i64 n))
 | .sub _ _ _ lo hi=>some (.v (.int .i64 (hi -lo:Nat)))
 | _=>none
def qw4(x:D):Option D:=match x with
 | .v (.string s)=>some (.v (.int .i64 s.size))
 | _=>none
def qw6(x:D):Option D:=match x with
 | .v (.int _ n)=>some (.v (.string (Utf8.encode n)))
 | _=>none
def qw3(x:D):Option D:=match x with
 | .v (.string s)=>if s.size<=1000000000 then some (.list 1 ((Conv.runesFrom s s.size 0 #[]).toList.map D.v))else none
 | _=>none
def qxa(x:D):Option D:=match x with
 | .v (.string s)=>some (.list 1 (s.data.toList.map λc=> .v (.int .u8 c.toNat)))
 | _=>none
def qw7(mx:Bool)(x y:D):Option D:=match x,y with
 | .v (.int k a), .v (.int c b)=>if k=c then some (.v (.int k (if mx then max a b else min a b)))else none
 | _,_=>none
noncomputable def vR(c:COp)(σ:Sg)(he:HE):Option D:=match c with
 | .mv x=>some (ev σ x)
 | .pick c x y=>qdP (ev σ c) (ev σ x) (ev σ y)
 | .box _ true x=>qmB (ev σ x)
 | .build z a=>(Xf σ a (z.map rk)).map .agg
 | .bslice _ n a=>qxb n (a.map (ev σ))
 | .load agg sz x=>qdQ agg sz he (ev σ x)
 | .nilck x=>qmu (ev σ x)
 | .arith op x y=>qmC op (ev σ x) (ev σ y)
 | .cmp op x y=>qmz op (ev σ x) (ev σ y)
 | .eql neg agg ks x y=>(qkY agg ks (ev σ x) (ev σ y)).map λp=> .v (.bool (if neg then !p else p))
 | .scat x y=>qmA (ev σ x) (ev σ y)
 | .not x=>qmt (ev σ x)
 | .neg x=>qmv (ev σ x)
 | .conv k x=>qdR k (ev σ x)
 | .clo f caps=>some (.clo f (caps.map (ev σ)))
 | .slice n x lo hi=>Ub n he (lo.map λo=>mM (ev σ o)) (hi.map λo=>mM (ev σ o)) (ev σ x)
 | .sslice x lo hi=>qw2 (lo.map λo=>mM (ev σ o)) (hi.map λo=>mM (ev σ o)) (ev σ x)
 | .faddr off x=>qw9 off (ev σ x)
 | .fld agg sz off x=>qmx agg sz off (ev σ x)
 | .iaddr n x i=>qw8 n he (ev σ x) (ev σ i)
 | .sidx x i=>qw5 (ev σ x) (ev σ i)
 | .ext x i=>qmy (ev σ x) i
 | .len x=>qmw he (ev σ x)
 | .slen x=>qw4 (ev σ x)
 | .rstr x=>qw6 (ev σ x)
 | .srunes x=>qw3 (ev σ x)
 | .sbytes x=>qxa (ev σ x)
 | .mm mx [x,y]=>qw7 mx (ev σ x) (ev σ y)
 | _=>none
section
variable {ρ:VL}{σe σ:Sg}{he:HE}{H:ab}
def D5{n:Nat} :∀{cs ds:List D},RepL ρ cs ds->F2 n cs=true->km n ds
 | [], [],_,_=>trivial
 | [],_::_,h,_=>by have:=h.1;grind
 | _::_, [],h,_=>by simp
 | c::cs,d::ds,h,hp=>by
   simp[F2]at hp;have h0:=h.2 0 c d rfl rfl;have j:RepL ρ cs ds:=⟨by have:=h.1;grind,λk a b h1 h2=>h.2 (k+1) a b (by grind) (by grind)⟩
   refine⟨h0.kn hp.1.1,?_,D5 j hp.2⟩;rw[<- (h0.cells hp.1.1).1];simp_all
def TS(a:SRep ρ σe σ){K:List D->Prop} :∀(d:List (Nat×Nat×Operand)) (cs ds out:List D),RepL ρ cs ds->Xf σe d cs=some out->(∀b,RepL ρ out b->K b)->kE σ d ds K
 | [],cs,ds,out,h,he,j=>by cases he;simp_all
 | (off,sz,x)::r,cs,ds,out,h,he,j=>by
  simp only[Xf]at he;split at he
  ·rename_i hc;simp[qF9]at hc;have c:=bc a x;refine⟨c.kn hc.1,?_,TS a r _ _ out (Kw h (c.cells hc.1) off) he j⟩;rw[<- (c.cells hc.1).1];simp_all
  grind
theorem Xj(a:SRep ρ σe σ){o:Operand}{p:IntKind×Int}(h:mM (ev σe o)=some p):mM (ev σ o)=some p:=by rw[qnt (bc a o) h];exact h
theorem WX(c:SRep ρ σe σ){lo hi:Option Operand}{len:Nat}{p:Nat×Nat}(h:qlk (lo.map λo=>mM (ev σe o)) (hi.map λo=>mM (ev σe o)) len=some p){K:Nat->Nat->Prop}(d:K p.1 p.2):
 lX (lo.map λo=>mM (ev σ o)) (hi.map λo=>mM (ev σ o)) len K:=by
 have key:∀(o:Option Operand),(∃q,(o.map λo=>mM (ev σe o))=some (some q))\/(o.map λo=>mM (ev σe o))=none->(o.map λo=>mM (ev σ o))=o.map λo=>mM (ev σe o):=λo h=>by
  cases o<;>grind [Xj]
 unfold qlk at h;split at h;grind [lX]
 ·rename_i k l b a;rw[key lo (.inl ⟨_,b⟩),key hi (.inr a),a];grind [lX]
 ·rename_i k l b a;rw[key lo (.inr b),key hi (.inl ⟨_,a⟩),a];grind [lX]
 ·rename_i k l j r b a;rw[key lo (.inl ⟨_,b⟩),key hi (.inl ⟨_,a⟩),a];grind [lX]
 grind
theorem HF{n m:Nat}{x:Value}{b:Nat}{y:Value}{c:Nat}(h:qdU (nm n) (nm m)=true)(h1:ρ[n]? =some (x,b))(h2:ρ[m]? =some (y,c)):x=y:=by
 simp[qdU]at h;grind
def qst{op:BinOp}{k:IntKind}{a b n:Int}(h:qsu op k a b=some n){K:D->Prop}(c:K (.v (.int k n))):gW op k a b K:=by
 cases op<;>simp only[qsu]at h<;>try (done)
 all_goals first
  | (split at h
     simp_all [qeR];simp_all)
  |simp_all
def qn8{op:BinOp}{k a:IntKind}(h:quV op k a=true):qgS op k a:=by
 cases op<;>first|trivial|exact(of_decide_eq_true (p:=k=a) h)
theorem qe5{k:qbE}{a b c d:D}(h1:Rep ρ a c)(h2:Rep ρ b d){p:Bool}(h:qaE k a b=some p):qaE k c d=some p:=by
 cases k
 case nil=>
  simp only[qaE]at h ⊢;unfold qrj at h;split at h
  ·cases h1;cases h2;exact h
  ·cases h2;cases h1 with
   | list _ _ ds hl _=>
     cases ds with
     |nil=>cases hl
     |cons _ _=>exact h
  ·cases h
 all_goals (cases h1<;>cases h2<;>first|exact h|simp[qaE,mM,qwB,qwC]at h)
theorem qe4:∀ {ks:List qbE} {j l cs ds:List D},RepL ρ j cs->RepL ρ l ds->∀{p:Bool},qdk ks j l=some p->qdk ks cs ds=some p
 | [],j,l,cs,ds,h1,h2,p,h=>by
   grind [qdk,X.RepL]
 | k::ks,j,l,cs,ds,h1,h2,p,h=>by
   have w:=h1.1;have A:=h2.1;cases j with
   |nil=>grind [qdk]
   | cons a j=>
     cases l with
     |nil=>grind [qdk]
     | cons b l=>
       cases cs with
       |nil=>grind
       | cons c cs=>
         cases ds with
         |nil=>grind
         | cons d ds=>
           simp only[qdk,List.head?_cons,qGt,qF3]at h ⊢
           let ⟨q,s,r,t,h⟩:=h
           have t1:RepL ρ j cs:=⟨by grind,λk x y a b=>h1.2 (k+1) x y (by grind) (by grind)⟩
           have u:RepL ρ l ds:=⟨by grind,λk x y a b=>h2.2 (k+1) x y (by grind) (by grind)⟩
           exact⟨q,qe5 (h1.2 0 a c rfl rfl) (h2.2 0 b d rfl rfl) s,r,qe4 t1 u t,h⟩
def qoB{agg:Bool}{ks:List qbE}{a b c d:D}(h1:Rep ρ a c)(h2:Rep ρ b d){p:Bool}(h:qkY agg ks a b=some p):qkY agg ks c d=some p:=by
 unfold qkY at h ⊢;split at h
 ·rename_i e;rw[if_pos e];cases h1<;>try (simp[wy]at h)
  rename_i r cs j k;cases h2<;>try (simp at h)
  rename_i s ds l q;exact qe4 ⟨j,k⟩ ⟨l,q⟩ h
 ·rename_i e;grind [qe5]
theorem Lh(q:SRep ρ σe σ)(N:HRep ρ he H){c:COp}{d:D}(h:vR c σe he=some d){K:D->Prop}(r:∀d',Rep ρ d d'->K d'):ak c σ H K:=by
 cases c<;>try (cases h;done)
 all_goals try simp only[vR,qdP,qmB,qxb,qdQ,qmu,qmC,qmz,qmA,qmt,qmv,qdR,Ub,qw2,qw9,qmx,qw8,qw5,qmy,qmw,qw4,qw6,qw3,qxa,qw7]at h
 case mv x=>cases h;exact r _ (bc q x)
 case pick c x y=>
  simp[ak];have hc:=bc q c;generalize ev σe c=a at h hc;generalize ev σ c=b at hc;cases hc<;>try (cases h;done)
  grind [bc]
 case box el im x=>
  cases im
  ·cases h
  ·simp only[vR,qdP,qmB,qxb,qdQ,qmu,qmC,qmz,qmA,qmt,qmv,qdR,Ub,qw2,qw9,qmx,qw8,qw5,qmy,qmw,qw4,qw6,qw3,qxa,qw7]at h;split at h
   ·rename_i hk;cases h;have j:=bc q x;exact⟨j.kn hk,r _ (.cptr _ _ _ (j.cells hk).1 (j.cells hk).2)⟩
   grind
 case build z W=>
  simp[vR,qGe]at h;obtain⟨cs,h,rfl⟩:=h;exact TS q W _ _ cs (O3 z) h λds I=>r _ (.agg _ _ I.1 I.2)
 case bslice el n W=>
  split at h
  ·rename_i hp;cases h;have F:=A4 q W;exact⟨D5 F hp,r _ (.list _ _ _ F.1 F.2)⟩
  grind
 case load agg sz x=>
  simp[ak];have j:=bc q x;generalize ev σe x=a at h j;generalize ev σ x=b at j;cases j<;>try (cases h;done)
  ·rename_i cs ds off hl hc;dsimp only at h ⊢;split at h
   ·rename_i hb;cases h;exact⟨by rw[<-hl];exact hb,r _ (Vp ⟨hl,hc⟩ _ _ _)⟩
   ·cases h
  ·rename_i id n off x b hn;dsimp only at h ⊢;split at h
   ·rename_i b' cs J;split at h
    ·rename_i hb;simp only[qF9,decide_eq_true_eq]at hb;obtain⟨r',h1,h2⟩:=N _ _ J;cases h;rw[h1];cases h2 with
     | box L cs ds U b2 O hc=>
       have e:=Nat.eq_of_beq_eq_true hb.1;subst e;rw[hn]at O;cases O;exact⟨rfl,by rw[<-hc.1];exact hb.2,r _ (Vp hc _ _ _)⟩
    ·cases h
   ·cases h
  ·rename_i id n w i off x b hn;dsimp only at h ⊢;split at h
   ·rename_i U el L es J;split at h
    ·rename_i hb;simp only[qF9,decide_eq_true_eq]at hb;obtain⟨r',h1,h2⟩:=N _ _ J;rw[h1];cases h2 with
     | row m el w' cs ds y b2 hm hc=>
       have e:=Nat.eq_of_beq_eq_true hb.1.2;subst e;have ex:=HF hb.1.1 hm hn;subst ex;split at h
       ·rename_i d0 M;split at h
        ·rename_i hk;cases h;obtain⟨d1,C,F⟩:=hc.get M;refine⟨rfl,rfl,hb.2,(qF4.1 C).1,λd I=>?_⟩;rw[C]at I;cases I;exact r _ (Vp (F.cells hk) _ _ _)
        ·cases h
       ·cases h
    ·cases h
   ·cases h
 case nilck x=>
  simp only[ak];have j:=bc q x;generalize ev σe x=a at h j;generalize ev σ x=b at j;cases j<;>try (cases h;done)
  ·rename_i cs ds off hl hc;cases h;exact r _ (.cptr _ _ _ hl hc)
  ·rename_i hn;cases h;exact r _ (.bptr _ _ _ _ _ hn)
  ·rename_i hn;cases h;exact r _ (.eptr _ _ _ _ _ _ _ hn)
 case arith op x y=>
  simp only[ak];have j:=bc q x;have E:=bc q y;generalize ev σe x=a at h j;generalize ev σ x=b at j;generalize ev σe y=Y at h E;generalize ev σ y=b' at E;cases j<;>try (cases h;done)
  rename_i v;cases v<;>try (cases h;done)
  cases E<;>try (cases h;done)
  rename_i v;cases v<;>try (cases h;done)
  dsimp only at h ⊢;split at h
  ·rename_i hk;simp only[qGe]at h;obtain⟨n,h,rfl⟩:=h;exact⟨qn8 hk,qst h (r _ (.v _))⟩
  ·cases h
 case cmp op x y=>
  simp only[ak];have j:=bc q x;have E:=bc q y;generalize ev σe x=a at h j;generalize ev σ x=b at j;generalize ev σe y=Y at h E;generalize ev σ y=b' at E;cases j<;>try (cases h;done)
  rename_i v;cases v<;>try (cases h;done)
  all_goals
   cases E<;>try (cases h;done)
   rename_i v;cases v<;>try (cases h;done)
   dsimp only at h ⊢
  ·split at h
   ·rename_i hk;simp only[qGe]at h;obtain⟨t,h,rfl⟩:=h;rw[h];exact⟨hk,r _ (.v _)⟩
   ·cases h
  ·simp only[qGe]at h;obtain⟨t,h,rfl⟩:=h;rw[h];exact r _ (.v _)
 case eql neg agg ks x y=>
  simp only[vR,qGe]at h;obtain⟨p,h,rfl⟩:=h;simp only[ak];rw[qoB (bc q x) (bc q y) h];exact r _ (.v _)
 case scat x y=>
  simp only[ak];have j:=bc q x;have E:=bc q y;generalize ev σe x=a at h j;generalize ev σ x=b at j;generalize ev σe y=Y at h E;generalize ev σ y=b' at E;cases j<;>try (cases h;done)
  rename_i v;cases v<;>try (cases h;done)
  cases E<;>try (cases h;done)
  rename_i v;cases v<;>try (cases h;done)
  dsimp only at h ⊢;split at h
  ·rename_i hk;cases h;exact⟨hk,r _ (.v _)⟩
  ·cases h
 case not x=>
  simp only[ak];have j:=bc q x;generalize ev σe x=a at h j;generalize ev σ x=b at j;cases j<;>try (cases h;done)
  rename_i v;cases v<;>try (cases h;done)
  cases h;exact r _ (.v _)
 case neg x=>
  simp only[ak];have j:=bc q x;generalize ev σe x=a at h j;generalize ev σ x=b at j;cases j<;>try (cases h;done)
  rename_i v;cases v<;>try (cases h;done)
  dsimp only at h ⊢;split at h
  ·rename_i hk;cases h;exact⟨qeR hk,r _ (.v _)⟩
  ·cases h
 case conv k x=>
  simp only[ak];have j:=bc q x;generalize ev σe x=a at h j;generalize ev σ x=b at j;cases j<;>try (cases h;done)
  rename_i v;cases v<;>try (cases h;done)
  cases h;exact r _ (.v _)
 case clo f caps=>
  cases h;have F:=A4 q caps;exact r _ (.clo _ _ _ F.1 F.2)
 case slice n x lo hi=>
  simp only[ak];have j:=bc q x;generalize ev σe x=a at h j;generalize ev σ x=b at j;cases j<;>try (cases h;done)
  ·rename_i L cs ds hl hc;dsimp only at h ⊢;split at h
   ·rename_i hn;simp only[qGe]at h;obtain⟨p,h,rfl⟩:=h;refine⟨Nat.eq_of_beq_eq_true hn,?_⟩;have Q:RepL ρ cs ds:=⟨hl,hc⟩
    have A:K (.list n ((ds.take p.2).drop p.1)):=r _ (.list _ _ _ ((Q.take p.2).drop p.1).1 ((Q.take p.2).drop p.1).2);rw[hl]at h;have u:=WX q h (K:=λl h=>l=p.1/\h=p.2) ⟨rfl,rfl⟩;generalize (lo.map λo=>mM (ev σ o))=a at u ⊢;generalize (hi.map λo=>mM (ev σ o))=b at u ⊢;rcases a with _|_|⟨k1,l1⟩ <;>rcases b with _|_|⟨k2,l2⟩ <;>simp only[lX]at u ⊢ <;>try (exact u.elim)
    ·rw[<-u.1,<-u.2,qGc,List.drop_zero]at A;exact A
    ·rw[<-u.2.2.1,<-u.2.2.2,List.drop_zero]at A;exact⟨u.1,u.2.1,A⟩
    ·rw[<-u.2.2.1,<-u.2.2.2,qGc]at A;exact⟨u.1,u.2.1,A⟩
    ·rw[<-u.2.2.2.1,<-u.2.2.2.2]at A;exact⟨u.1,u.2.1,u.2.2.1,A⟩
   ·cases h
  ·rename_i id m x b hn;dsimp only at h ⊢;split at h
   ·rename_i U el L es J;split at h
    ·rename_i hb;simp only[qF9]at hb;simp only[qGe]at h;obtain⟨p,h,rfl⟩:=h;obtain⟨r',h1,h2⟩:=N _ _ J;rw[h1];cases h2 with
     | row m' el w' cs ds y b2 hm hc=>
       have e:=Nat.eq_of_beq_eq_true hb.2;subst e;have ex:=HF hb.1 hm hn;subst ex;rw[hc.1]at h;exact⟨rfl,rfl,WX q h (r _ (.sub _ _ _ _ _ _ _ hn))⟩
    ·cases h
   ·cases h
 case sslice x lo hi=>
  simp only[ak];have j:=bc q x;generalize ev σe x=a at h j;generalize ev σ x=b at j;cases j<;>try (cases h;done)
  rename_i v;cases v<;>try (cases h;done)
  rename_i s;simp only[qGe]at h;obtain⟨p,h,rfl⟩:=h;have A:K (.v (.string (s.extract p.1 p.2))):=r _ (.v _);have u:=WX q h (K:=λl h=>l=p.1/\h=p.2) ⟨rfl,rfl⟩;dsimp only;generalize (lo.map λo=>mM (ev σ o))=a at u ⊢;generalize (hi.map λo=>mM (ev σ o))=b at u ⊢;rcases a with _|_|⟨k1,l1⟩ <;>rcases b with _|_|⟨k2,l2⟩ <;>simp only[lX]at u ⊢ <;>try (exact u.elim)
  ·rw[<-u.1,<-u.2]at A;exact A
  ·rw[<-u.2.2.1,<-u.2.2.2]at A;exact⟨u.1,u.2.1,A⟩
  ·rw[<-u.2.2.1,<-u.2.2.2]at A;exact⟨u.1,u.2.1,A⟩
  ·rw[<-u.2.2.2.1,<-u.2.2.2.2]at A;exact⟨u.1,u.2.1,u.2.2.1,A⟩
 case faddr off x=>
  simp only[ak];have j:=bc q x;generalize ev σe x=a at h j;generalize ev σ x=b at j;cases j<;>try (cases h;done)
  ·rename_i cs ds off hl hc;cases h;exact r _ (.cptr _ _ _ hl hc)
  ·rename_i hn;cases h;exact r _ (.bptr _ _ _ _ _ hn)
  ·rename_i hn;cases h;exact r _ (.eptr _ _ _ _ _ _ _ hn)
 case fld agg sz off x=>
  simp only[ak];have j:=bc q x;generalize ev σe x=a at h j;generalize ev σ x=b at j;cases j<;>try (cases h;done)
  rename_i cs ds hl hc;dsimp only at h ⊢;split at h
  ·rename_i hb;cases h;exact⟨by rw[<-hl];exact hb,r _ (Vp ⟨hl,hc⟩ _ _ _)⟩
  ·cases h
 case iaddr n x i=>
  simp only[ak];have hi:=bc q i;generalize ev σe i=a at h hi;generalize ev σ i=b at hi;cases hi<;>try (cases h;done)
  rename_i v;cases v<;>try (cases h;done)
  rename_i k;dsimp only at h ⊢;have j:=bc q x;generalize ev σe x=a at h j;generalize ev σ x=b at j;cases j<;>try (cases h;done)
  ·rename_i L cs ds hl hc;dsimp only at h ⊢;split at h
   ·rename_i hb;simp only[qF9,decide_eq_true_eq]at hb;split at h
    ·rename_i d0 M;split at h
     ·rename_i hk;cases h;obtain⟨d1,C,F⟩:=RepL.get ⟨hl,hc⟩ M;have Z:=(qF4.1 C).1;refine⟨Nat.eq_of_beq_eq_true hb.1,hb.2,by omega,λd I=>?_⟩;rw[C]at I;cases I;exact r _ (.cptr _ _ _ (F.cells hk).1 (F.cells hk).2)
     ·cases h
    ·cases h
   ·cases h
  ·rename_i id m x b hn;dsimp only at h ⊢;split at h
   ·rename_i U el L es J;split at h
    ·rename_i hb;simp only[qF9,decide_eq_true_eq]at hb;cases h;obtain⟨r',h1,h2⟩:=N _ _ J;rw[h1];cases h2 with
     | row m' el w' cs ds y b2 hm hc=>
       have e:=Nat.eq_of_beq_eq_true hb.1.1.2;subst e;have ex:=HF hb.1.1.1 hm hn;subst ex;exact⟨rfl,rfl,hb.1.2,by rw[<-hc.1];exact hb.2,r _ (.eptr _ _ _ _ _ _ _ hn)⟩
    ·cases h
   ·cases h
  ·rename_i id m w lo hi x b hn;dsimp only at h ⊢;split at h
   ·rename_i hb;simp only[qF9,decide_eq_true_eq]at hb;cases h;exact⟨Nat.eq_of_beq_eq_true hb.1.1,hb.1.2,hb.2,r _ (.eptr _ _ _ _ _ _ _ hn)⟩
   ·cases h
 case sidx x i=>
  simp only[ak];have hi:=bc q i;generalize ev σe i=a at h hi;generalize ev σ i=b at hi;cases hi<;>try (cases h;done)
  rename_i v;cases v<;>try (cases h;done)
  rename_i k;dsimp only at h ⊢;have j:=bc q x;generalize ev σe x=a at h j;generalize ev σ x=b at j;cases j<;>try (cases h;done)
  rename_i v;cases v<;>try (cases h;done)
  rename_i s;dsimp only at h ⊢;split at h
  ·rename_i h0;simp only[decide_eq_true_eq]at h0;simp only[qGe]at h;obtain⟨c,hc,rfl⟩:=h;have Z:k.toNat<s.size:=(qGg.1 hc).1;refine⟨h0,by omega,λc' S=>?_⟩;rw[hc]at S;cases S;exact r _ (.v _)
  ·cases h
 case ext x i=>
  simp only[ak];have j:=bc q x;generalize ev σe x=a at h j;generalize ev σ x=b at j;cases j<;>try (cases h;done)
  rename_i cs ds hl hc;dsimp only at h ⊢;obtain⟨d1,C,F⟩:=RepL.get ⟨hl,hc⟩ h;rw[C];exact r _ F
 case len x=>
  simp only[ak];have j:=bc q x;generalize ev σe x=a at h j;generalize ev σ x=b at j;cases j<;>try (cases h;done)
  ·rename_i v;cases v<;>try (cases h;done)
   cases h;exact r _ (.v _)
  ·rename_i L cs ds hl hc;cases h;dsimp only;rw[hl]at r;exactλ_=>r _ (.v _)
  ·rename_i id m x b hn;dsimp only at h ⊢;split at h
   ·rename_i U el L es J;split at h
    ·rename_i hb;cases h;obtain⟨r',h1,h2⟩:=N _ _ J;rw[h1];cases h2 with
     | row m' el w' cs ds y b2 hm hc=>
       have ex:=HF hb hm hn;subst ex;rw[hc.1]at r;exact⟨rfl,λ_=>r _ (.v _)⟩
    ·cases h
   ·cases h
  ·cases h;exactλ_=>r _ (.v _)
 case slen x=>
  simp only[ak];have j:=bc q x;generalize ev σe x=a at h j;generalize ev σ x=b at j;cases j<;>try (cases h;done)
  rename_i v;cases v<;>try (cases h;done)
  cases h;exactλ_=>r _ (.v _)
 case rstr x=>
  simp only[ak];have j:=bc q x;generalize ev σe x=a at h j;generalize ev σ x=b at j;cases j<;>try (cases h;done)
  rename_i v;cases v<;>try (cases h;done)
  cases h;exact r _ (.v _)
 case srunes x=>
  simp only[ak];have j:=bc q x;generalize ev σe x=a at h j;generalize ev σ x=b at j;cases j<;>try (cases h;done)
  rename_i v;cases v<;>try (cases h;done)
  dsimp only at h ⊢;split at h
  ·rename_i hs;cases h;refine⟨hs,r _ (.list _ _ _ rfl (RepL.same λd I=>?_).2)⟩;obtain⟨y,_,rfl⟩:=qGd.1 I;exact .v _
  ·cases h
 case sbytes x=>
  simp only[ak];have j:=bc q x;generalize ev σe x=a at h j;generalize ev σ x=b at j;cases j<;>try (cases h;done)
  rename_i v;cases v<;>try (cases h;done)
  cases h;refine r _ (.list _ _ _ rfl (RepL.same λd I=>?_).2);obtain⟨y,_,rfl⟩:=qGd.1 I;exact .v _
 case mm mx xs=>
  match xs,h with
  | [x,y],h=>
    simp only[vR,qdP,qmB,qxb,qdQ,qmu,qmC,qmz,qmA,qmt,qmv,qdR,Ub,qw2,qw9,qmx,qw8,qw5,qmy,qmw,qw4,qw6,qw3,qxa,qw7]at h;simp only[ak];have j:=bc q x;have E:=bc q y;generalize ev σe x=a at h j;generalize ev σ x=b at j;generalize ev σe y=Y at h E;generalize ev σ y=b' at E;cases j<;>try (cases h;done)
    rename_i v;cases v<;>try (cases h;done)
    cases E<;>try (cases h;done)
    rename_i v;cases v<;>try (cases h;done)
    dsimp only at h ⊢;split at h
    ·rename_i hk;cases h;exact⟨hk,r _ (.v _)⟩
    ·cases h
end
end X
namespace X
noncomputable def Y0(n:Nat)(d:D)(he:HE):Option (List D):=match d with
 | .v (.string s)=>if Nat.beq n 1 then some (HV s)else none
 | .v (.slice none 0 0)=>some []
 | .list a es=>if Nat.beq a n then some es else none
 | .own id x=>match he.get id with
   |some (.row b _ a es)=>if qdU b x && Nat.beq a n then some es else none
   | _=>none
 | .sub id x a lo hi=>match he.get id with
   |some (.row b _ c es)=>if qdU b x && Nat.beq a n && Nat.beq c n then some ((es.take hi).drop lo)else none
   | _=>none
 | _=>none
def qww(a b:Nat):Bool:=Nat.ble (a*b) 140737488355328 && Nat.ble a 140737488355328
abbrev WR:=Option (D×HE×Nat)
noncomputable def zQ(z:List Value)(dst:Option Nat)(he:HE)(n:Nat):WR:=match dst with
 |some t=>some (.bptr t n 0,he.set t (.box n (z.map rk)),n+1)
 |none=>none
noncomputable def qtV(x:D)(dst:Option Nat)(he:HE)(n:Nat):WR:=match dst with
 |some t=>if x.kn then some (.bptr t n 0,he.set t (.box n x.cells),n+1)else none
 |none=>none
noncomputable def qmY(el w:Nat)(dst:Option Nat)(he:HE)(n:Nat):WR:=match dst with
 |some t=>some (.own t (nm n),he.set t (.row (nm n) el w []),n+1)
 |none=>none
noncomputable def qmZ(el w:Nat)(ds:List D)(dst:Option Nat)(he:HE)(n:Nat):WR:=match dst with
 |some t=>if F2 w ds then some (.own t (nm n),he.set t (.row (nm n) el w ds),n+1)else none
 |none=>none
noncomputable def qm0(el w bytes:Nat)(agg:Bool)(z:List Value)(l c:Option (IntKind×Int))(dst:Option Nat)(he:HE)(n:Nat):WR:=match dst,l,c with
 |some t,some (_,l),some (_,c)=>if decide (0<=l) && decide (l<=c) && decide (bytes*c<=140737488355328) && decide (c<=140737488355328)then some (.own t (nm n),he.set t (.row (nm n) el w (List.replicate l.toNat (if agg then .agg (z.map rk)else rk (z.headD (.bool false))))),n+1)else none
 | _,_,_=>none
noncomputable def qmV(sz:Nat)(x y:D)(he:HE)(n:Nat):WR:=if y.kn && Nat.beq y.cells.length sz then(match x with
 | .bptr id b off=>match he.get id with
   |some (.box b' cs)=>if Nat.beq b' b && decide (off+sz<=cs.length)then some (.undef,he.set id (.box b' (setAt cs off y.cells)),n)else none
   | _=>none
 | .eptr id x w i off=>match he.get id with
   | some (.row a el w' es)=>if qdU a x && Nat.beq w' w && decide (0<w) && decide (off+sz<=w)then(match es[i]? with
     |some d=>if d.kn then some (.undef,he.set id (.row a el w' (es.set i (if off=0/\sz=w then y else .agg (setAt d.cells off y.cells)))),n)else none
     |none=>none)else none
   | _=>none
 | _=>none)else none
noncomputable def qmW(x:D)(dst:Option Nat)(he:HE)(n:Nat):WR:=match dst,x with
 |some t, .v (.string s)=>some (.bptr t n 0,he.set t (.iter n s 0),n+1)
 | _,_=>none
noncomputable def qmX(x:D)(he:HE)(n:Nat):WR:=match x with
 | .bptr id b off=>match he.get id with
   |some (.iter b' s pos)=>if Nat.beq off 0 && Nat.beq b' b then(if pos<s.size then some (.tup [.v (.bool true), .v (.int .i64 pos), .v (.int .i32 (Utf8.decode s pos).1)],he.set id (.iter b' s (pos+ (Utf8.decode s pos).2)),n)else some (.tup [.v (.bool false)],he,n))else none
   | _=>none
 | _=>none
noncomputable def qhx(el w bytes:Nat)(x:D)(src:Option (List D))(dst:Option Nat)(he:HE)(n:Nat):WR:=match src with
 | some es2=>match x with
   | .own id x=>match he.get id with
     |some (.row b a w' es)=>if qdU b x && Nat.beq a el && Nat.beq w' w && qww (es.length+es2.length) bytes then some (.own id (nm n),he.set id (.row (nm n) el w (es++es2)),n+1)else none
     | _=>none
   | .v (.slice none 0 0)=>match dst with
     |some t=>if qww es2.length bytes then some (.own t (nm n),he.set t (.row (nm n) el w es2),n+1)else none
     |none=>none
   | .sub id x w' lo hi=>match he.get id with
     |some (.row b a c es)=>if qdU b x && Nat.beq a el && Nat.beq w' w && Nat.beq c w && Nat.beq lo 0 && qww (hi+es2.length) bytes then some (.own id (nm n),he.set id (.row (nm n) el w (es.take hi++es2)),n+1)else none
     | _=>none
   | _=>none
 |none=>none
def qxr(r:Option D)(he:HE)(n:Nat):WR:=match r with
 |some d=>some (d,he,n)
 |none=>none
noncomputable def qkX(c:COp)(dst:Option Nat)(σ:Sg)(he:HE)(n:Nat):WR:=match c with
 | .alloc _ z=>zQ z dst he n
 | .box el im x=>match im with
   |false=>qtV (ev σ x) dst he n
   |true=>qxr (vR (.box el true x) σ he) he n
 | .nslice el w=>qmY el w dst he n
 | .mslice el w a=>qmZ el w (a.map (ev σ)) dst he n
 | .mkslice el w bytes agg z l c=>qm0 el w bytes agg z (mM (ev σ l)) (mM (ev σ c)) dst he n
 | .store _ sz x y=>qmV sz (ev σ x) (ev σ y) he n
 | .srange x=>qmW (ev σ x) dst he n
 | .snext x=>qmX (ev σ x) he n
 | .append _ el w bytes x y=>qhx el w bytes (ev σ x) (Y0 w (ev σ y) he) dst he n
 | .tbx _ _| .appmk .. | .clear .. | .copy .. | .m _ _| .bad| .call _ _| .callv _ _| .callb _ _ _=>none
 |c=>qxr (vR c σ he) he n
section
variable {ρ:VL}{σe σ:Sg}{he:HE}{H:ab}
def ZI(ρ:VL)(y:Value×Nat):ρ <+:ρ++ [y]:=⟨[y],rfl⟩
def QB{a b:Nat}(h:qww a b=true):a*b<=140737488355328/\a<=140737488355328:=by
 simp_all [qww]
def Ay{i m n:Nat}{x y:Value}{b c el w:Nat}{es:List D}(a:HRep ρ he H)(d:he.get i=some (.row (nm m) el w es))(h:qdU (nm m) (nm n)=true)(hn:ρ[n]? =some (x,b)):∃ds,H i=some (.row x el w ds)/\RepL ρ es ds:=by
 obtain⟨r',h1,h2⟩:=a _ _ d;grind [X.RepR,HF]
def FY{i:Nat}{x:Value}{el w:Nat}{es:List D}(a:HRep ρ he H)(b:he.get i=some (.row x el w es)):∃m,x=nm m:=by
 obtain⟨r',h1,h2⟩:=a _ _ b;cases h2<;>grind
theorem qdZ(j:HRep ρ he H){n:Nat}{d p:D}(q:Rep ρ d p){es:List D}(h:Y0 n d he=some es){K:List D->Prop}(l:∀es',RepL ρ es es'->K es'):uP n p H K:=by
 cases q<;>try (cases h;done)
 ·rename_i v;unfold Y0 at h;split at h<;>rename_i e<;>try (cases e;done)
  ·cases e;split at h
   ·rename_i hn;cases h;refine⟨Nat.eq_of_beq_eq_true hn,l _ (RepL.same λd r=>?_)⟩;obtain⟨b,_,rfl⟩:=qGd.1 r;exact .v _
   grind
  ·cases e;cases h;exact l _ .nil
  grind
 ·rename_i t cs ds hl hc;simp only[Y0]at h;split at h
  ·rename_i hn;cases h;exact⟨Nat.eq_of_beq_eq_true hn,l _ ⟨hl,hc⟩⟩
  grind
 ·rename_i id m x b hn;simp only[Y0]at h;split at h
  ·rename_i s el w es' a;split at h
   ·rename_i hb;simp only[qF9]at hb;cases h;obtain⟨k,rfl⟩:=FY j a;obtain⟨ds,h1,h2⟩:=Ay (c:=0) (y:= .bool true) j a hb.1 hn;simp_all
   grind
  grind
 ·rename_i id m w lo hi x b hn;simp only[Y0]at h;split at h
  ·rename_i s el w' es' a;split at h
   ·rename_i hb;simp only[qF9]at hb;cases h;obtain⟨k,rfl⟩:=FY j a;obtain⟨ds,h1,h2⟩:=Ay (c:=0) (y:= .bool true) j a hb.1.1 hn;show mQ n (.sub id x w lo hi) H K;simp only[mQ,h1];exact⟨trivial,Nat.eq_of_beq_eq_true hb.1.2,Nat.eq_of_beq_eq_true hb.2,l _ ((h2.take hi).drop lo)⟩
   grind
  grind
def qjm(agg:Bool)(z:List Value):Rep ρ (if agg then D.agg (z.map rk)else rk (z.headD (.bool false))) (if agg then D.agg (z.map rk)else rk (z.headD (.bool false))):=by
 cases agg;grind [Vq]
 ·exact .agg _ _ rfl (O3 z).2
theorem qrM(A:SRep ρ σe σ)(u:HRep ρ he H){n Z:Nat}(hn:ρ.length=n){c:COp}{dst:Option Nat}{d:D}{N:HE}(h:qkX c dst σe he n=some (d,N,Z)){K:D->ab->Prop}
 (F:∀(M:VL) (d':D) (H':ab),ρ <+:M->M.length=Z->Rep M d d'->HRep M N H'->K d' H'):bj c dst σ H K:=by
 have rd:∀c:COp,qxr (vR c σe he) he n=some (d,N,Z)->ak c σ H λd=>K d H:=λc h=>by
  unfold qxr at h;grind [Lh,List.prefix_refl]
 have one:∀y:Value×Nat,ρ <+:ρ++ [y]/\(ρ++ [y]).length=n+1/\(ρ++ [y])[n]? =some y:=λy=>⟨ZI ρ y,by grind,by grind⟩
 cases c
 case alloc el z=>
  simp only[qkX,zQ,qmY,qmZ,qm0,qmV,qmW,qmX,qhx]at h;split at h
  ·cases h;intro b;obtain⟨j,C,r⟩:=one (.bool true,b);exact F _ _ _ j C (.bptr _ _ _ _ _ r) ((u.mono j).set (.box _ _ _ _ _ r (O3 z)))
  grind
 case box el im x=>
  cases im with
  |true=>exact rd _ h
  | false=>
    simp only[qkX,qtV]at h;split at h
    ·split at h
     ·rename_i hk;cases h;have O:=bc A x;refine⟨O.kn hk,λb=>?_⟩;obtain⟨j,C,r⟩:=one (.bool true,b);exact F _ _ _ j C (.bptr _ _ _ _ _ r) ((u.mono j).set (.box _ _ _ _ _ r ((O.cells hk).mono j)))
     grind
    grind
 case nslice el w=>
  simp only[qkX,zQ,qmY,qmZ,qm0,qmV,qmW,qmX,qhx]at h;split at h
  ·cases h;intro x;obtain⟨j,C,r⟩:=one (x,0);exact F _ _ _ j C (.own _ _ _ _ r) ((u.mono j).set (.row _ _ _ _ _ _ _ r .nil))
  grind
 case mslice el w ps=>
  simp only[qkX,zQ,qmY,qmZ,qm0,qmV,qmW,qmX,qhx]at h;split at h
  ·split at h
   ·rename_i hp;cases h;have U:=A4 A ps;refine⟨D5 U hp,λx=>?_⟩;obtain⟨j,C,r⟩:=one (x,0);exact F _ _ _ j C (.own _ _ _ _ r) ((u.mono j).set (.row _ _ _ _ _ _ _ r (U.mono j)))
   grind
  grind
 case mkslice el w bytes agg z l c=>
  simp only[qkX,zQ,qmY,qmZ,qm0,qmV,qmW,qmX,qhx]at h;split at h
  ·rename_i t k1 l' k2 c' e1 e2;split at h
   ·rename_i hb;simp only[qF9,decide_eq_true_eq]at hb;cases h;simp only[bj,Xj A e1,Xj A e2];refine⟨hb.1.1.1,hb.1.1.2,hb.1.2,hb.2,λx=>?_⟩;obtain⟨j,C,r⟩:=one (x,0);exact F _ _ _ j C (.own _ _ _ _ r) ((u.mono j).set (.row _ _ _ _ _ _ _ r (RepL.rep (qjm agg z) _)))
   ·cases h
  ·cases h
 case store rt sz x y=>
  simp only[qkX,zQ,qmY,qmZ,qm0,qmV,qmW,qmX,qhx]at h;split at h
  ·rename_i W;simp only[qF9]at W;have ry:=bc A y;have cy:=ry.cells W.1;refine⟨ry.kn W.1,by rw[<-cy.1];exact Nat.eq_of_beq_eq_true W.2,?_⟩;have rx:=bc A x;generalize ev σe x=a at h rx;generalize ev σ x=b at rx;cases rx<;>try (cases h;done)
   ·rename_i id m off x b hm;dsimp only at h ⊢;split at h
    ·rename_i b' cs J;split at h
     ·rename_i hb;simp only[qF9,decide_eq_true_eq]at hb;cases h;obtain⟨r',h1,h2⟩:=u _ _ J;rw[h1];cases h2 with
      | box n2 cs ds Y b2 L hc=>
        have e:=Nat.eq_of_beq_eq_true hb.1;subst e;rw[hm]at L;cases L;exact⟨rfl,by rw[<-hc.1];exact hb.2,F ρ _ _ (List.prefix_refl ρ) hn .undef (u.set (.box _ _ _ _ _ hm (Kw hc cy off)))⟩
     ·cases h
    ·cases h
   ·rename_i id m w i off x b hm;dsimp only at h ⊢;split at h
    ·rename_i Y el w' es J;split at h
     ·rename_i hb;simp only[qF9,decide_eq_true_eq]at hb;obtain⟨k,rfl⟩:=FY u J;obtain⟨ds,h1,h2⟩:=Ay (c:=0) (y:= .bool true) u J hb.1.1.1 hm;have ew:=Nat.eq_of_beq_eq_true hb.1.1.2;subst ew;split at h
      ·rename_i d0 hd0;split at h
       ·rename_i hk;cases h;obtain⟨d1,Q,U⟩:=h2.get hd0;rw[h1];refine⟨rfl,rfl,hb.1.2,hb.2,(qF4.1 Q).1,λd2 S=>?_⟩;rw[Q]at S;cases S;have hkm:ρ[k]? =some (x,b):=by
         have:=hb.1.1.1;simp only[qdU,decide_eq_true_eq]at this;have:k=m:=by omega
         subst this;exact hm
        refine F ρ _ _ (List.prefix_refl ρ) hn .undef (u.set (.row _ _ _ _ _ _ _ hkm (h2.set ?_)));split
        ·exact ry
        ·have q:=Kw (U.cells hk) cy off;exact .agg _ _ q.1 q.2
       ·cases h
      ·cases h
     ·cases h
    ·cases h
  ·cases h
 case srange x=>
  simp only[qkX,zQ,qmY,qmZ,qm0,qmV,qmW,qmX,qhx]at h;split at h
  ·rename_i t s e;cases h;have O:=bc A x;rw[e]at O;simp only[bj];generalize ev σ x=q at O;cases O;intro b;obtain⟨j,C,r⟩:=one (.bool true,b);exact F _ _ _ j C (.bptr _ _ _ _ _ r) ((u.mono j).set (.iter _ _ _ _ _ r))
  ·cases h
 case snext x=>
  simp only[qkX,zQ,qmY,qmZ,qm0,qmV,qmW,qmX,qhx]at h;simp only[bj];have rx:=bc A x;generalize ev σe x=a at h rx;generalize ev σ x=b at rx;cases rx<;>try (cases h;done)
  rename_i id m off x b hm;dsimp only at h ⊢;split at h
  ·rename_i b' s pos J;split at h
   ·rename_i hb;simp only[qF9]at hb;obtain⟨r',h1,h2⟩:=u _ _ J;have e:=Nat.eq_of_beq_eq_true hb.2;subst e;rw[h1];cases h2 with
    | iter _ _ _ Y b2 L=>
      rw[hm]at L;cases L;have tk:∀p q:Value,RepL ρ [.v (.bool true), .v p, .v q] [.v (.bool true), .v p, .v q]:=λp q=> .cons (.v _) (.cons (.v _) (.cons (.v _) .nil))
      have tf:RepL ρ [.v (.bool false)] [.v (.bool false)]:= .cons (.v _) .nil;refine⟨Nat.eq_of_beq_eq_true hb.1,rfl,λhp=>?_,λhp=>?_⟩
      ·rw[if_pos hp]at h;cases h;exact F ρ _ _ (List.prefix_refl ρ) hn (.tup _ _ rfl (tk _ _).2) (u.set (.iter _ _ _ _ _ hm))
      ·rw[if_neg hp]at h;cases h;exact F ρ _ _ (List.prefix_refl ρ) hn (.tup _ _ rfl tf.2) u
   ·cases h
  ·cases h
 case append rt el w bytes x y=>
  simp only[qkX,zQ,qmY,qmZ,qm0,qmV,qmW,qmX,qhx]at h;simp only[bj];split at h
  ·rename_i es2 he2;refine qdZ u (bc A y) he2 λes2' I=>?_
   have rx:=bc A x;generalize ev σe x=a at h rx;generalize ev σ x=b at rx;cases rx<;>try (cases h;done)
   ·rename_i v;split at h<;>rename_i e<;>try (cases e;done)
    ·cases e;split at h
     ·split at h
      ·rename_i hb;cases h;have hb:=QB hb;rw[I.1]at hb;refine⟨hb.1,hb.2,λv=>?_⟩;obtain⟨j,C,r⟩:=one (v,0);exact F _ _ _ j C (.own _ _ _ _ r) ((u.mono j).set (.row _ _ _ _ _ _ _ r (I.mono j)))
      ·cases h
     ·cases h
    ·cases h
   ·rename_i id m x b hm;dsimp only at h ⊢;split at h
    ·rename_i Y el' w' es J;split at h
     ·rename_i hb;simp only[qF9]at hb;cases h;obtain⟨k,rfl⟩:=FY u J;obtain⟨ds,h1,h2⟩:=Ay (c:=0) (y:= .bool true) u J hb.1.1.1 hm;have E:=QB hb.2;rw[I.1,h2.1]at E;rw[h1];refine⟨rfl,Nat.eq_of_beq_eq_true hb.1.1.2,Nat.eq_of_beq_eq_true hb.1.2,E.1,E.2,λv=>?_⟩;obtain⟨j,C,r⟩:=one (v,0);exact F _ _ _ j C (.own _ _ _ _ r) ((u.mono j).set (.row _ _ _ _ _ _ _ r ((h2.append I).mono j)))
     ·cases h
    ·cases h
   ·rename_i id m w' lo hi x b hm;dsimp only at h ⊢;split at h
    ·rename_i Y el' w'' es J;split at h
     ·rename_i hb;simp only[qF9]at hb;cases h;obtain⟨k,rfl⟩:=FY u J;obtain⟨ds,h1,h2⟩:=Ay (c:=0) (y:= .bool true) u J hb.1.1.1.1.1 hm;have E:=QB hb.2;rw[I.1]at E;rw[h1];refine⟨rfl,Nat.eq_of_beq_eq_true hb.1.1.1.1.2,Nat.eq_of_beq_eq_true hb.1.1.1.2,Nat.eq_of_beq_eq_true hb.1.1.2,Nat.eq_of_beq_eq_true hb.1.2,E.1,E.2,λv=>?_⟩;obtain⟨j,C,r⟩:=one (v,0);exact F _ _ _ j C (.own _ _ _ _ r) ((u.mono j).set (.row _ _ _ _ _ _ _ r (((h2.take hi).append I).mono j)))
     ·cases h
    ·cases h
  ·cases h
 case mv x=>exact rd (.mv x) h
 case clo f caps=>exact rd (.clo f caps) h
 all_goals first
  |(cases h;done)
  |exact rd _ h
end
abbrev SL:=Tr D
structure XH where
 he:HE
 sm:List Nat
 nw:List Nat
 n:Nat
structure XS where
 l:SL
 h:XH
abbrev CF:=Nat->List D->XH->Option (D×XH)
noncomputable def sg(l:SL):Sg:=λt=>match l.get t with
 |some d=>d
 |none=> .any
noncomputable def uO(l:SL)(d:Option Nat)(x:D):SL:=match d with
 |some t=>l.set t x
 |none=>l
def qpt(d:D)(l:List Nat):List Nat:=match d with
 | .own i _=>if Nat.ble 1000 i then l else i::l
 | .bptr i _ _=>if Nat.ble 1000 i then l else i::l
 | _=>l
noncomputable def xW(c:COp)(dst:Option Nat)(σ:Sg)(h:XH):Option (D×XH):=match qkX c dst σ h.he h.n with
 |some (d,a,b)=>some (d,⟨a,Bool.rec (qpt d h.sm) h.sm (Nat.beq b h.n),h.nw,b⟩)
 |none=>none
def XJ(h:XH)(r:Option (D×XH)):Option (D×XH):=match r with
 |some (d,a)=>some (d,⟨a.he,a.sm++h.sm,a.nw++h.nw,a.n⟩)
 |none=>none
noncomputable def qoy(cf:CF)(c:COp)(dst:Option Nat)(σ:Sg)(h:XH):Option (D×XH):=match c with
 | .call f args=>XJ h (cf f (args.map (ev σ)) ⟨h.he, [], [],h.n⟩)
 | .callb _ f args=>XJ h (cf f (args.map (ev σ)) ⟨h.he, [], [],h.n⟩)
 | .callv f args=>match ev σ f with
   | .clo g caps=>XJ h (cf g (args.map (ev σ) ++caps) ⟨h.he, [], [],h.n⟩)
   | _=>none
 |c=>xW c dst σ h
noncomputable def qyV(g:Option (Nat×Bool))(l:SL):Option Bool:=match g with
 |none=>some true
 | some (s,b)=>match sg l s with
   | .v (.bool t)=>some (t==b)
   | .undef=>some false
   | _=>none
noncomputable def qpr(cf:CF)(ci:CI)(s:XS)(a:XS->Option XS):Option XS:=match ci with
 | .frz _ _=>none
 | .op dst g c=>match qyV g s.l with
   | some true=>match qoy cf c dst (sg s.l) s.h with
     |some (d,b)=>a ⟨uO s.l dst d,b⟩
     |none=>none
   |some false=>a ⟨uO s.l dst .undef,s.h⟩
   |none=>none
noncomputable def qza(cf:CF)(ls:List CI):XS->Option XS:=List.rec (motive:=λ_=>XS->Option XS) (λs=>some s) (λci _ a s=>qpr cf ci s a) ls
def quZ:COp->Bool
 | .alloc _ _| .box _ false _| .nslice _ _| .mslice .. | .mkslice .. =>true
 | _=>false
def qxM(rt:Option Nat)(d:D):Bool:=match d with
 | .own id _| .bptr id _ _| .eptr id _ _ _ _=>(match rt with
   |some r=>Nat.beq id r
   |none=>false)
 | .v (.slice none 0 0)=>rt.isNone
 | _=>false
noncomputable def xH(h:XH)(r:WR):Option (D×XH):=match r with
 |some (d,a,b)=>some (d,⟨a,Bool.rec (qpt d h.sm) h.sm (Nat.beq b h.n),h.nw,b⟩)
 |none=>none
abbrev PF:=Nat->List D->Option D
noncomputable def qBy(w:Option Nat)(he:HE):HE:=match w with
 |some t=>if Nat.beq (Wu t) 0 then .e else he.del t
 |none=>he
noncomputable def mk:List CI->HE->HE
 | [],he=>he
 | .frz _ _::_,he=>he
 | .op d _ c::l,he=>qBy (c.wid d) (mk l he)
noncomputable def qAF(p:PF)(ci:CI)(r:List CI)(a:HE)(s:XS)(j:HE->XS->Option XS):Option XS:=match ci with
 | .frz _ _=>j (mk r a) s
 | .op dst g c=>match qyV g s.l with
   | some true=>match c with
     | .call f args=>match p f (args.map (ev (sg s.l)))with
       |some d=>j a ⟨uO s.l dst d,s.h⟩
       |none=>none
     | .store (some r) sz x y=>if qxM (some r) (ev (sg s.l) x)then(match xW (.store (some r) sz x y) dst (sg s.l) s.h with
        |some (d,k)=>j a ⟨uO s.l dst d,k⟩
        |none=>none)else none
     | .append rt el w b x y=>if qxM rt (ev (sg s.l) x)then(match xH s.h (qhx el w b (ev (sg s.l) x) (Y0 w (ev (sg s.l) y) a) dst s.h.he s.h.n)with
        |some (d,k)=>j a ⟨uO s.l dst d,k⟩
        |none=>none)else none
     | c=>if quZ c then(match xW c dst (sg s.l) s.h with
        |some (d,k)=>j a ⟨uO s.l dst d,k⟩
        |none=>none)
       else if c.isRead then(match vR c (sg s.l) a with
        |some d=>j a ⟨uO s.l dst d,s.h⟩
        |none=>none)else none
   |some false=>j a ⟨uO s.l dst .undef,s.h⟩
   |none=>none
noncomputable def qy9(a:PF)(ls:List CI):HE->XS->Option XS:=List.rec (motive:=λ_=>HE->XS->Option XS) (λ_ s=>some s) (λci r b c s=>qAF a ci r c s b) ls
end X
end Go.Gv
