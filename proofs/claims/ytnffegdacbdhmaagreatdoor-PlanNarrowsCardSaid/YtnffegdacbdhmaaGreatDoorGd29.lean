/- T51 -/
import Derived.Test.YtnffegdacbdhmaaGreatDoorGd28
set_option linter.all false
namespace Go.Gv
namespace X
noncomputable def UM(n:Nat)(d:D)(he:HE):Option (List D):=match d with
 | .v (.string s)=>if Nat.beq n 1 then some (FI s)else none
 | .v (.slice none 0 0)=>some []
 | .list n' es=>if Nat.beq n' n then some es else none
 | .own id x=>match he.get id with
   |some (.row x' _ n' es)=>if ZN x' x && Nat.beq n' n then some es else none
   | _=>none
 | .sub id x n' lo hi=>match he.get id with
   |some (.row x' _ n'' es)=>if ZN x' x && Nat.beq n' n && Nat.beq n'' n then some ((es.take hi).drop lo)else none
   | _=>none
 | _=>none
def qqZ(a b:Nat):Bool:=Nat.ble (a*b) 140737488355328 && Nat.ble a 140737488355328
abbrev WR:=Option (D×HE×Nat)
noncomputable def yw(z:List Value)(dst:Option Nat)(he:HE)(n:Nat):WR:=match dst with
 |some t=>some (.bptr t n 0,he.set t (.box n (z.map qH)),n+1)
 |none=>none
noncomputable def qoU(x:D)(dst:Option Nat)(he:HE)(n:Nat):WR:=match dst with
 |some t=>if x.kn then some (.bptr t n 0,he.set t (.box n x.cells),n+1)else none
 |none=>none
noncomputable def qin(el w:Nat)(dst:Option Nat)(he:HE)(n:Nat):WR:=match dst with
 |some t=>some (.own t (nm n),he.set t (.row (nm n) el w []),n+1)
 |none=>none
noncomputable def qio(el w:Nat)(ds:List D)(dst:Option Nat)(he:HE)(n:Nat):WR:=match dst with
 |some t=>if Eb w ds then some (.own t (nm n),he.set t (.row (nm n) el w ds),n+1)else none
 |none=>none
noncomputable def qip(el w bytes:Nat)(agg:Bool)(z:List Value)(l c:Option (IntKind×Int))(dst:Option Nat)(he:HE)(n:Nat):WR:=match dst,l,c with
 |some t,some (_,l),some (_,c)=>if decide (0<=l) && decide (l<=c) && decide (bytes*c<=140737488355328) && decide (c<=140737488355328)then some (.own t (nm n),he.set t (.row (nm n) el w (List.replicate l.toNat (if agg then .agg (z.map qH)else qH (z.headD (.bool false))))),n+1)else none
 | _,_,_=>none
noncomputable def qik(sz:Nat)(x y:D)(he:HE)(n:Nat):WR:=if y.kn && Nat.beq y.cells.length sz then(match x with
 | .bptr id b off=>match he.get id with
   |some (.box b' cs)=>if Nat.beq b' b && decide (off+sz<=cs.length)then some (.undef,he.set id (.box b' (setAt cs off y.cells)),n)else none
   | _=>none
 | .eptr id x w i off=>match he.get id with
   | some (.row x' el w' es)=>if ZN x' x && Nat.beq w' w && decide (0<w) && decide (off+sz<=w)then(match es[i]? with
     |some d=>if d.kn then some (.undef,he.set id (.row x' el w' (es.set i (if off=0/\sz=w then y else .agg (setAt d.cells off y.cells)))),n)else none
     |none=>none)else none
   | _=>none
 | _=>none)else none
noncomputable def qil(x:D)(dst:Option Nat)(he:HE)(n:Nat):WR:=match dst,x with
 |some t, .v (.string s)=>some (.bptr t n 0,he.set t (.iter n s 0),n+1)
 | _,_=>none
noncomputable def qim(x:D)(he:HE)(n:Nat):WR:=match x with
 | .bptr id b off=>match he.get id with
   |some (.iter b' s pos)=>if Nat.beq off 0 && Nat.beq b' b then(if pos<s.size then some (.tup [.v (.bool true), .v (.int .i64 pos), .v (.int .i32 (Utf8.decode s pos).1)],he.set id (.iter b' s (pos+ (Utf8.decode s pos).2)),n)else some (.tup [.v (.bool false)],he,n))else none
   | _=>none
 | _=>none
noncomputable def qdh(el w bytes:Nat)(x:D)(src:Option (List D))(dst:Option Nat)(he:HE)(n:Nat):WR:=match src with
 | some es2=>match x with
   | .own id x=>match he.get id with
     |some (.row x' el' w' es)=>if ZN x' x && Nat.beq el' el && Nat.beq w' w && qqZ (es.length+es2.length) bytes then some (.own id (nm n),he.set id (.row (nm n) el w (es++es2)),n+1)else none
     | _=>none
   | .v (.slice none 0 0)=>match dst with
     |some t=>if qqZ es2.length bytes then some (.own t (nm n),he.set t (.row (nm n) el w es2),n+1)else none
     |none=>none
   | .sub id x w' lo hi=>match he.get id with
     |some (.row x' el' w'' es)=>if ZN x' x && Nat.beq el' el && Nat.beq w' w && Nat.beq w'' w && Nat.beq lo 0 && qqZ (hi+es2.length) bytes then some (.own id (nm n),he.set id (.row (nm n) el w (es.take hi++es2)),n+1)else none
     | _=>none
   | _=>none
 |none=>none
def qrI(r:Option D)(he:HE)(n:Nat):WR:=match r with
 |some d=>some (d,he,n)
 |none=>none
noncomputable def qgt(c:COp)(dst:Option Nat)(σ:Sg)(he:HE)(n:Nat):WR:=match c with
 | .alloc _ z=>yw z dst he n
 | .box el im x=>match im with
   |false=>qoU (ev σ x) dst he n
   |true=>qrI (cV (.box el true x) σ he) he n
 | .nslice el w=>qin el w dst he n
 | .mslice el w ps=>qio el w (ps.map (ev σ)) dst he n
 | .mkslice el w bytes agg z l c=>qip el w bytes agg z (mC (ev σ l)) (mC (ev σ c)) dst he n
 | .store _ sz x y=>qik sz (ev σ x) (ev σ y) he n
 | .srange x=>qil (ev σ x) dst he n
 | .snext x=>qim (ev σ x) he n
 | .append _ el w bytes x y=>qdh el w bytes (ev σ x) (UM w (ev σ y) he) dst he n
 | .tbx _ _| .appmk .. | .clear .. | .copy .. | .m _ _| .bad| .call _ _| .callv _ _| .callb _ _ _=>none
 |c=>qrI (cV c σ he) he n
section
variable {ρ:VL}{σe σ:Sg}{he:HE}{H:ab}
def Vr(ρ:VL)(y:Value×Nat):ρ <+:ρ++ [y]:=⟨[y],rfl⟩
def Wp(ρ:VL)(y:Value×Nat):(ρ++ [y])[ρ.length]? =some y:=by simp
def NM{a b:Nat}(h:qqZ a b=true):a*b<=140737488355328/\a<=140737488355328:=by
 simp only[qqZ,qzZ]at h;exact⟨qz0 h.1,qz0 h.2⟩
def yW{i m n:Nat}{x y:Value}{b c el w:Nat}{es:List D}(hH:HRep ρ he H)(hg:he.get i=some (.row (nm m) el w es))(hv:ZN (nm m) (nm n)=true)(hn:ρ[n]? =some (x,b)):∃ds,H i=some (.row x el w ds)/\RepL ρ es ds:=by
 obtain⟨r',h1,h2⟩:=hH _ _ hg;cases h2 with
 | row _ _ _ cs ds y b2 hm hc=>
   have ex:=Ft hv hm hn;subst ex;exact⟨ds,h1,hc⟩
def D8{i:Nat}{x:Value}{el w:Nat}{es:List D}(hH:HRep ρ he H)(hg:he.get i=some (.row x el w es)):∃m,x=nm m:=by
 obtain⟨r',h1,h2⟩:=hH _ _ hg;cases h2 with
 |row n=>exact⟨n,rfl⟩
theorem ZT(hH:HRep ρ he H){n:Nat}{d d':D}(hr:Rep ρ d d'){es:List D}(h:UM n d he=some es){K:List D->Prop}(hK:∀es',RepL ρ es es'->K es'):vM n d' H K:=by
 cases hr<;>try (cases h;done)
 ·rename_i v;unfold UM at h;split at h<;>rename_i e<;>try (cases e;done)
  ·cases e;split at h
   ·rename_i hn;cases h;refine⟨Nat.eq_of_beq_eq_true hn,hK _ (RepL.same λd hd=>?_)⟩;obtain⟨b,_,rfl⟩:=qz1.1 hd;exact .v _
   ·cases h
  ·cases e;cases h;exact hK _ .nil
  ·cases h
 ·rename_i n' cs ds hl hc;simp only[UM]at h;split at h
  ·rename_i hn;cases h;exact⟨Nat.eq_of_beq_eq_true hn,hK _ ⟨hl,hc⟩⟩
  ·cases h
 ·rename_i id m x b hn;simp only[UM]at h;split at h
  ·rename_i x' el w es' hg;split at h
   ·rename_i hb;simp only[qzZ]at hb;cases h;obtain⟨k,rfl⟩:=D8 hH hg;obtain⟨ds,h1,h2⟩:=yW (c:=0) (y:= .bool true) hH hg hb.1 hn;show kD n (.own id x) H K;simp only[kD,h1];exact⟨trivial,Nat.eq_of_beq_eq_true hb.2,hK _ h2⟩
   ·cases h
  ·cases h
 ·rename_i id m w lo hi x b hn;simp only[UM]at h;split at h
  ·rename_i x' el w' es' hg;split at h
   ·rename_i hb;simp only[qzZ]at hb;cases h;obtain⟨k,rfl⟩:=D8 hH hg;obtain⟨ds,h1,h2⟩:=yW (c:=0) (y:= .bool true) hH hg hb.1.1 hn;show kD n (.sub id x w lo hi) H K;simp only[kD,h1];exact⟨trivial,Nat.eq_of_beq_eq_true hb.1.2,Nat.eq_of_beq_eq_true hb.2,hK _ ((h2.take hi).drop lo)⟩
   ·cases h
  ·cases h
def qeU(agg:Bool)(z:List Value):Rep ρ (if agg then D.agg (z.map qH)else qH (z.headD (.bool false))) (if agg then D.agg (z.map qH)else qH (z.headD (.bool false))):=by
 cases agg
 ·exact RS _
 ·exact .agg _ _ rfl (Mj z).2
theorem qmS(hσ:SRep ρ σe σ)(hH:HRep ρ he H){n n':Nat}(hn:ρ.length=n){c:COp}{dst:Option Nat}{d:D}{he':HE}(h:qgt c dst σe he n=some (d,he',n')){K:D->ab->Prop}
 (hK:∀(ρ':VL) (d':D) (H':ab),ρ <+:ρ'->ρ'.length=n'->Rep ρ' d d'->HRep ρ' he' H'->K d' H'):bk c dst σ H K:=by
 have rd:∀c:COp,qrI (cV c σe he) he n=some (d,he',n')->aj c σ H λd=>K d H:=λc h=>by
  unfold qrI at h;split at h
  ·rename_i d0 h0;cases h;exact II hσ hH h0 λd' hd'=>hK ρ d' H (List.prefix_refl ρ) hn hd' hH
  ·cases h
 have one:∀y:Value×Nat,ρ <+:ρ++ [y]/\(ρ++ [y]).length=n+1/\(ρ++ [y])[n]? =some y:=λy=>⟨Vr ρ y,by simp[hn],by rw[<-hn];exact Wp ρ y⟩
 cases c
 case alloc el z=>
  simp only[qgt,yw,qin,qio,qip,qik,qil,qim,qdh]at h;split at h
  ·cases h;intro b;obtain⟨o1,o2,o3⟩:=one (.bool true,b);exact hK _ _ _ o1 o2 (.bptr _ _ _ _ _ o3) ((hH.mono o1).set (.box _ _ _ _ _ o3 (Mj z)))
  ·cases h
 case box el im x=>
  cases im with
  |true=>exact rd _ h
  | false=>
    simp only[qgt,qoU]at h;split at h
    ·split at h
     ·rename_i hk;cases h;have hx:=aV hσ x;refine⟨hx.kn hk,λb=>?_⟩;obtain⟨o1,o2,o3⟩:=one (.bool true,b);exact hK _ _ _ o1 o2 (.bptr _ _ _ _ _ o3) ((hH.mono o1).set (.box _ _ _ _ _ o3 ((hx.cells hk).mono o1)))
     ·cases h
    ·cases h
 case nslice el w=>
  simp only[qgt,yw,qin,qio,qip,qik,qil,qim,qdh]at h;split at h
  ·cases h;intro x;obtain⟨o1,o2,o3⟩:=one (x,0);exact hK _ _ _ o1 o2 (.own _ _ _ _ o3) ((hH.mono o1).set (.row _ _ _ _ _ _ _ o3 .nil))
  ·cases h
 case mslice el w ps=>
  simp only[qgt,yw,qin,qio,qip,qik,qil,qim,qdh]at h;split at h
  ·split at h
   ·rename_i hp;cases h;have hr:=zM hσ ps;refine⟨CA hr hp,λx=>?_⟩;obtain⟨o1,o2,o3⟩:=one (x,0);exact hK _ _ _ o1 o2 (.own _ _ _ _ o3) ((hH.mono o1).set (.row _ _ _ _ _ _ _ o3 (hr.mono o1)))
   ·cases h
  ·cases h
 case mkslice el w bytes agg z l c=>
  simp only[qgt,yw,qin,qio,qip,qik,qil,qim,qdh]at h;split at h
  ·rename_i t k1 l' k2 c' e1 e2;split at h
   ·rename_i hb;simp only[qzZ,decide_eq_true_eq]at hb;cases h;simp only[bk,Ti hσ e1,Ti hσ e2];refine⟨hb.1.1.1,hb.1.1.2,hb.1.2,hb.2,λx=>?_⟩;obtain⟨o1,o2,o3⟩:=one (x,0);exact hK _ _ _ o1 o2 (.own _ _ _ _ o3) ((hH.mono o1).set (.row _ _ _ _ _ _ _ o3 (RepL.rep (qeU agg z) _)))
   ·cases h
  ·cases h
 case store rt sz x y=>
  simp only[qgt,yw,qin,qio,qip,qik,qil,qim,qdh]at h;split at h
  ·rename_i hy;simp only[qzZ]at hy;have ry:=aV hσ y;have cy:=ry.cells hy.1;refine⟨ry.kn hy.1,by rw[<-cy.1];exact Nat.eq_of_beq_eq_true hy.2,?_⟩;have rx:=aV hσ x;generalize ev σe x=a at h rx;generalize ev σ x=b at rx;cases rx<;>try (cases h;done)
   ·rename_i id m off x b hm;dsimp only at h ⊢;split at h
    ·rename_i b' cs hg;split at h
     ·rename_i hb;simp only[qzZ,decide_eq_true_eq]at hb;cases h;obtain⟨r',h1,h2⟩:=hH _ _ hg;rw[h1];cases h2 with
      | box n2 cs ds x' b2 hn' hc=>
        have e:=Nat.eq_of_beq_eq_true hb.1;subst e;rw[hm]at hn';cases hn';exact⟨rfl,by rw[<-hc.1];exact hb.2,hK ρ _ _ (List.prefix_refl ρ) hn .undef (hH.set (.box _ _ _ _ _ hm (HY hc cy off)))⟩
     ·cases h
    ·cases h
   ·rename_i id m w i off x b hm;dsimp only at h ⊢;split at h
    ·rename_i x' el w' es hg;split at h
     ·rename_i hb;simp only[qzZ,decide_eq_true_eq]at hb;obtain⟨k,rfl⟩:=D8 hH hg;obtain⟨ds,h1,h2⟩:=yW (c:=0) (y:= .bool true) hH hg hb.1.1.1 hm;have ew:=Nat.eq_of_beq_eq_true hb.1.1.2;subst ew;split at h
      ·rename_i d0 hd0;split at h
       ·rename_i hk;cases h;obtain⟨d1,hd1,hr⟩:=h2.get hd0;rw[h1];refine⟨rfl,rfl,hb.1.2,hb.2,(qzV.1 hd1).1,λd2 hd2=>?_⟩;rw[hd1]at hd2;cases hd2;have hkm:ρ[k]? =some (x,b):=by
         have:=hb.1.1.1;simp only[ZN,decide_eq_true_eq]at this;have:k=m:=by omega
         subst this;exact hm
        refine hK ρ _ _ (List.prefix_refl ρ) hn .undef (hH.set (.row _ _ _ _ _ _ _ hkm (h2.set ?_)));split
        ·exact ry
        ·have q:=HY (hr.cells hk) cy off;exact .agg _ _ q.1 q.2
       ·cases h
      ·cases h
     ·cases h
    ·cases h
  ·cases h
 case srange x=>
  simp only[qgt,yw,qin,qio,qip,qik,qil,qim,qdh]at h;split at h
  ·rename_i t s e;cases h;have hx:=aV hσ x;rw[e]at hx;simp only[bk];generalize ev σ x=q at hx;cases hx;intro b;obtain⟨o1,o2,o3⟩:=one (.bool true,b);exact hK _ _ _ o1 o2 (.bptr _ _ _ _ _ o3) ((hH.mono o1).set (.iter _ _ _ _ _ o3))
  ·cases h
 case snext x=>
  simp only[qgt,yw,qin,qio,qip,qik,qil,qim,qdh]at h;simp only[bk];have rx:=aV hσ x;generalize ev σe x=a at h rx;generalize ev σ x=b at rx;cases rx<;>try (cases h;done)
  rename_i id m off x b hm;dsimp only at h ⊢;split at h
  ·rename_i b' s pos hg;split at h
   ·rename_i hb;simp only[qzZ]at hb;obtain⟨r',h1,h2⟩:=hH _ _ hg;have e:=Nat.eq_of_beq_eq_true hb.2;subst e;rw[h1];cases h2 with
    | iter _ _ _ x' b2 hn'=>
      rw[hm]at hn';cases hn';have tk:∀p q:Value,RepL ρ [.v (.bool true), .v p, .v q] [.v (.bool true), .v p, .v q]:=λp q=> .cons (.v _) (.cons (.v _) (.cons (.v _) .nil))
      have tf:RepL ρ [.v (.bool false)] [.v (.bool false)]:= .cons (.v _) .nil;refine⟨Nat.eq_of_beq_eq_true hb.1,rfl,λhp=>?_,λhp=>?_⟩
      ·rw[if_pos hp]at h;cases h;exact hK ρ _ _ (List.prefix_refl ρ) hn (.tup _ _ rfl (tk _ _).2) (hH.set (.iter _ _ _ _ _ hm))
      ·rw[if_neg hp]at h;cases h;exact hK ρ _ _ (List.prefix_refl ρ) hn (.tup _ _ rfl tf.2) hH
   ·cases h
  ·cases h
 case append rt el w bytes x y=>
  simp only[qgt,yw,qin,qio,qip,qik,qil,qim,qdh]at h;simp only[bk];split at h
  ·rename_i es2 he2;refine ZT hH (aV hσ y) he2 λes2' hr2=>?_
   have rx:=aV hσ x;generalize ev σe x=a at h rx;generalize ev σ x=b at rx;cases rx<;>try (cases h;done)
   ·rename_i v;split at h<;>rename_i e<;>try (cases e;done)
    ·cases e;split at h
     ·split at h
      ·rename_i hb;cases h;have hb:=NM hb;rw[hr2.1]at hb;refine⟨hb.1,hb.2,λv=>?_⟩;obtain⟨o1,o2,o3⟩:=one (v,0);exact hK _ _ _ o1 o2 (.own _ _ _ _ o3) ((hH.mono o1).set (.row _ _ _ _ _ _ _ o3 (hr2.mono o1)))
      ·cases h
     ·cases h
    ·cases h
   ·rename_i id m x b hm;dsimp only at h ⊢;split at h
    ·rename_i x' el' w' es hg;split at h
     ·rename_i hb;simp only[qzZ]at hb;cases h;obtain⟨k,rfl⟩:=D8 hH hg;obtain⟨ds,h1,h2⟩:=yW (c:=0) (y:= .bool true) hH hg hb.1.1.1 hm;have hbd:=NM hb.2;rw[hr2.1,h2.1]at hbd;rw[h1];refine⟨rfl,Nat.eq_of_beq_eq_true hb.1.1.2,Nat.eq_of_beq_eq_true hb.1.2,hbd.1,hbd.2,λv=>?_⟩;obtain⟨o1,o2,o3⟩:=one (v,0);exact hK _ _ _ o1 o2 (.own _ _ _ _ o3) ((hH.mono o1).set (.row _ _ _ _ _ _ _ o3 ((h2.append hr2).mono o1)))
     ·cases h
    ·cases h
   ·rename_i id m w' lo hi x b hm;dsimp only at h ⊢;split at h
    ·rename_i x' el' w'' es hg;split at h
     ·rename_i hb;simp only[qzZ]at hb;cases h;obtain⟨k,rfl⟩:=D8 hH hg;obtain⟨ds,h1,h2⟩:=yW (c:=0) (y:= .bool true) hH hg hb.1.1.1.1.1 hm;have hbd:=NM hb.2;rw[hr2.1]at hbd;rw[h1];refine⟨rfl,Nat.eq_of_beq_eq_true hb.1.1.1.1.2,Nat.eq_of_beq_eq_true hb.1.1.1.2,Nat.eq_of_beq_eq_true hb.1.1.2,Nat.eq_of_beq_eq_true hb.1.2,hbd.1,hbd.2,λv=>?_⟩;obtain⟨o1,o2,o3⟩:=one (v,0);exact hK _ _ _ o1 o2 (.own _ _ _ _ o3) ((hH.mono o1).set (.row _ _ _ _ _ _ _ o3 (((h2.take hi).append hr2).mono o1)))
     ·cases h
    ·cases h
  ·cases h
 case mv x=>exact rd (.mv x) h
 case clo f caps=>exact rd (.clo f caps) h
 all_goals first
  |(cases h;done)
  |exact rd _ h
end
abbrev SL:=Tr D
structure XH where
 he:HE
 sm:List Nat
 nw:List Nat
 n:Nat
structure XS where
 l:SL
 h:XH
abbrev CF:=Nat->List D->XH->Option (D×XH)
noncomputable def sg(l:SL):Sg:=λt=>match l.get t with
 |some d=>d
 |none=> .any
noncomputable def uO(l:SL)(d:Option Nat)(x:D):SL:=match d with
 |some t=>l.set t x
 |none=>l
def qkH(d:D)(l:List Nat):List Nat:=match d with
 | .own i _=>if Nat.ble 1000 i then l else i::l
 | .bptr i _ _=>if Nat.ble 1000 i then l else i::l
 | _=>l
noncomputable def xW(c:COp)(dst:Option Nat)(σ:Sg)(h:XH):Option (D×XH):=match qgt c dst σ h.he h.n with
 |some (d,he',n')=>some (d,⟨he',Bool.rec (qkH d h.sm) h.sm (Nat.beq n' h.n),h.nw,n'⟩)
 |none=>none
def TC(h:XH)(r:Option (D×XH)):Option (D×XH):=match r with
 |some (d,h')=>some (d,⟨h'.he,h'.sm++h.sm,h'.nw++h.nw,h'.n⟩)
 |none=>none
noncomputable def qjQ(cf:CF)(c:COp)(dst:Option Nat)(σ:Sg)(h:XH):Option (D×XH):=match c with
 | .call f args=>TC h (cf f (args.map (ev σ)) ⟨h.he, [], [],h.n⟩)
 | .callb _ f args=>TC h (cf f (args.map (ev σ)) ⟨h.he, [], [],h.n⟩)
 | .callv f args=>match ev σ f with
   | .clo g caps=>TC h (cf g (args.map (ev σ) ++caps) ⟨h.he, [], [],h.n⟩)
   | _=>none
 |c=>xW c dst σ h
noncomputable def qs8(g:Option (Nat×Bool))(l:SL):Option Bool:=match g with
 |none=>some true
 | some (s,b)=>match sg l s with
   | .v (.bool t)=>some (t==b)
   | .undef=>some false
   | _=>none
noncomputable def qkF(cf:CF)(ci:CI)(s:XS)(ih:XS->Option XS):Option XS:=match ci with
 | .frz _ _=>none
 | .op dst g c=>match qs8 g s.l with
   | some true=>match qjQ cf c dst (sg s.l) s.h with
     |some (d,h')=>ih ⟨uO s.l dst d,h'⟩
     |none=>none
   |some false=>ih ⟨uO s.l dst .undef,s.h⟩
   |none=>none
noncomputable def qtn(cf:CF)(ls:List CI):XS->Option XS:=List.rec (motive:=λ_=>XS->Option XS) (λs=>some s) (λci _ ih s=>qkF cf ci s ih) ls
def qpV:COp->Bool
 | .alloc _ _| .box _ false _| .nslice _ _| .mslice .. | .mkslice .. =>true
 | _=>false
def qr2(rt:Option Nat)(d:D):Bool:=match d with
 | .own id _| .bptr id _ _| .eptr id _ _ _ _=>(match rt with
   |some r=>Nat.beq id r
   |none=>false)
 | .v (.slice none 0 0)=>rt.isNone
 | _=>false
noncomputable def xH(h:XH)(r:WR):Option (D×XH):=match r with
 |some (d,he',n')=>some (d,⟨he',Bool.rec (qkH d h.sm) h.sm (Nat.beq n' h.n),h.nw,n'⟩)
 |none=>none
abbrev PF:=Nat->List D->Option D
noncomputable def qvJ(w:Option Nat)(he:HE):HE:=match w with
 |some t=>if Nat.beq (SA t) 0 then .e else he.del t
 |none=>he
noncomputable def mk:List CI->HE->HE
 | [],he=>he
 | .frz _ _::_,he=>he
 | .op d _ c::l,he=>qvJ (c.wid d) (mk l he)
noncomputable def quV(pf:PF)(ci:CI)(r:List CI)(hr:HE)(s:XS)(ih:HE->XS->Option XS):Option XS:=match ci with
 | .frz _ _=>ih (mk r hr) s
 | .op dst g c=>match qs8 g s.l with
   | some true=>match c with
     | .call f args=>match pf f (args.map (ev (sg s.l)))with
       |some d=>ih hr ⟨uO s.l dst d,s.h⟩
       |none=>none
     | .store (some r) sz x y=>if qr2 (some r) (ev (sg s.l) x)then(match xW (.store (some r) sz x y) dst (sg s.l) s.h with
        |some (d,h')=>ih hr ⟨uO s.l dst d,h'⟩
        |none=>none)else none
     | .append rt el w b x y=>if qr2 rt (ev (sg s.l) x)then(match xH s.h (qdh el w b (ev (sg s.l) x) (UM w (ev (sg s.l) y) hr) dst s.h.he s.h.n)with
        |some (d,h')=>ih hr ⟨uO s.l dst d,h'⟩
        |none=>none)else none
     | c=>if qpV c then(match xW c dst (sg s.l) s.h with
        |some (d,h')=>ih hr ⟨uO s.l dst d,h'⟩
        |none=>none)
       else if c.isRead then(match cV c (sg s.l) hr with
        |some d=>ih hr ⟨uO s.l dst d,s.h⟩
        |none=>none)else none
   |some false=>ih hr ⟨uO s.l dst .undef,s.h⟩
   |none=>none
noncomputable def qtm(pf:PF)(ls:List CI):HE->XS->Option XS:=List.rec (motive:=λ_=>HE->XS->Option XS) (λ_ s=>some s) (λci r ih hr s=>quV pf ci r hr s ih) ls
end X
variable {dq:Prop}
namespace X
noncomputable def lm(f:D->D)(l:List D):List D:=List.rec (motive:=λ_=>List D) [] (λd _ ih=>f d::ih) l
def sB(f:D->D):∀l,lm f l=l.map f
 | []=>rfl
 | d::l=>by
   show f d::lm f l=_;rw[sB f l];rfl
noncomputable def la(p:D->Bool)(l:List D):Bool:=List.rec (motive:=λ_=>Bool) false (λd _ ih=>Bool.rec ih true (p d)) l
def qdl(f:Nat->Nat):D->D
 | .own i x=> .own (f i) x
 | .bptr i b o=> .bptr (f i) b o
 |d=>d
noncomputable def qeS(f:Nat->Nat):D->D
 | .agg cs=> .agg (lm (qdl f) cs)
 |d=>qdl f d
noncomputable def rn(f:Nat->Nat):D->D
 | .tup ds=> .tup (lm (qeS f) ds)
 | .clo g cs=> .clo g (lm (qdl f) cs)
 |d=>qeS f d
section
variable {Hf:ab}{f:Nat->Nat}{ρ:VL}
def Wr{g:D->D}(h:∀d,FrzTo Hf d (g d))(l:List D)(k:Nat)(c c':D)(h1:l[k]? =some c)(h2:(lm g l)[k]? =some c'):FrzTo Hf c c':=by
 rw[sB,qz7,h1]at h2;cases h2;exact h c
def SF(d:D):FrzTo Hf d (qdl f d):=by
 cases d<;>first|exact .own _ _ _|exact .bptr _ _ _ _|exact .same _
def Zc(d:D):FrzTo Hf d (qeS f d):=by
 cases d
 case agg cs=>exact .agg (by rw[sB];simp) (Wr SF cs)
 all_goals exact SF (f:=f) _
def qqb(d:D):FrzTo Hf d (rn f d):=by
 cases d
 case tup cs=>exact .tup (by rw[sB];simp) (Wr Zc cs)
 case clo g cs=>exact .clo (by rw[sB];simp) (Wr SF cs)
 all_goals exact Zc (f:=f) _
def Mi{g:D->D}(h:∀c d,Rep ρ c d->Rep ρ (g c) (g d)){cs ds:List D}(hl:RepL ρ cs ds):RepL ρ (lm g cs) (lm g ds):=by
 rw[sB,sB];refine⟨by simpa using hl.1,λk c d h1 h2=>?_⟩;rw[qz7,qz6]at h1 h2;obtain⟨c0,h1,rfl⟩:=h1;obtain⟨d0,h2,rfl⟩:=h2;exact h _ _ (hl.2 k c0 d0 h1 h2)
def qal(c d:D)(h:Rep ρ c d):Rep ρ (qdl f c) (qdl f d):=by
 cases h with
 |any d=>exact .any _
 |undef=>exact .undef
 |v x=>exact .v x
 |agg cs ds hl h=>exact .agg cs ds hl h
 |tup cs ds hl h=>exact .tup cs ds hl h
 |clo g cs ds hl h=>exact .clo g cs ds hl h
 |list n cs ds hl h=>exact .list n cs ds hl h
 |cptr cs ds off hl h=>exact .cptr cs ds off hl h
 |own id n x b h=>exact .own _ n x b h
 |bptr id n off x b h=>exact .bptr _ n off x b h
 |eptr id n w i off x b h=>exact .eptr id n w i off x b h
 |sub id n w lo hi x b h=>exact .sub id n w lo hi x b h
def K5(c d:D)(h:Rep ρ c d):Rep ρ (qeS f c) (qeS f d):=by
 cases h with
 |any d=>exact .any _
 |agg cs ds hl h=>have q:=Mi (qal (f:=f)) (⟨hl,h⟩:RepL ρ cs ds);exact .agg _ _ q.1 q.2
 |clo g cs ds hl h=>exact .clo g cs ds hl h
 |undef=>exact .undef
 |v x=>exact .v x
 |tup cs ds hl h=>exact .tup cs ds hl h
 |list n cs ds hl h=>exact .list n cs ds hl h
 |cptr cs ds off hl h=>exact .cptr cs ds off hl h
 |own id n x b h=>exact .own _ n x b h
 |bptr id n off x b h=>exact .bptr _ n off x b h
 |eptr id n w i off x b h=>exact .eptr id n w i off x b h
 |sub id n w lo hi x b h=>exact .sub id n w lo hi x b h
def ql3(c d:D)(h:Rep ρ c d):Rep ρ (rn f c) (rn f d):=by
 cases h with
 |any d=>exact .any _
 |tup cs ds hl h=>have q:=Mi (K5 (f:=f)) (⟨hl,h⟩:RepL ρ cs ds);exact .tup _ _ q.1 q.2
 |agg cs ds hl h=>exact K5 _ _ (.agg cs ds hl h)
 |clo g cs ds hl h=>have q:=Mi (qal (f:=f)) (⟨hl,h⟩:RepL ρ cs ds);exact .clo g _ _ q.1 q.2
 |undef=>exact .undef
 |v x=>exact .v x
 |list n cs ds hl h=>exact .list n cs ds hl h
 |cptr cs ds off hl h=>exact .cptr cs ds off hl h
 |own id n x b h=>exact .own _ n x b h
 |bptr id n off x b h=>exact .bptr _ n off x b h
 |eptr id n w i off x b h=>exact .eptr id n w i off x b h
 |sub id n w lo hi x b h=>exact .sub id n w lo hi x b h
noncomputable def qr5(f:Nat->Nat):Res->Res
 | .box b cs=> .box b (lm (qeS f) cs)
 | .row x el n es=> .row x el n (lm (qeS f) es)
 |r=>r
def qs4(i:Nat):D->Bool
 | .own j _=>Nat.beq j i
 | .bptr j _ _=>Nat.beq j i
 | _=>false
noncomputable def qp5(i:Nat):D->Bool
 | .agg cs=>la (qs4 i) cs
 |d=>qs4 i d
noncomputable def qp4(i:Nat):Res->Bool
 | .box _ cs=>la (qp5 i) cs
 | .row _ _ _ es=>la (qp5 i) es
 | _=>false
def qkS:Res->Bool
 | .row _ _ n es=>Eb n es
 | _=>true
noncomputable def gR(i:Nat)(f:Nat->Nat)(r:Res):Option Res:=Bool.rec (some r) (Bool.rec none (some (qr5 f r)) (qkS r)) (qp4 i r)
def qiN{r s:Res}(h:RepR ρ r s):RepR ρ (qr5 f r) (qr5 f s):=by
 cases h with
 |box n cs ds x b h hc=>exact .box _ _ _ _ _ h (Mi K5 hc)
 |row n el w cs ds x b h hc=>exact .row _ _ _ _ _ _ _ h (Mi K5 hc)
 |iter n s p x b h=>exact .iter _ _ _ _ _ h
def PN{c:D}(hk:c.kn=true):(qeS f c).kn=true/\(qeS f c).cells=lm (qdl f) c.cells:=by
 cases c<;>first
  |(simp[D.kn]at hk;done)
  |exact⟨rfl,rfl⟩
  |(refine⟨rfl,?_⟩;simp[qeS,qdl,D.cells,lm])
theorem qiO{x:Value}{el n:Nat}{cs ds:List D}(h:RepL ρ cs ds)(hp:Eb n cs=true):RFz Hf (.row x el n ds) (.row x el n (lm (qeS f) ds)):=by
 have hv:=CA h hp;have key:∀l:List D,kg n l->∀d∈l,d.kn=true/\d.cells.length=n:=by
  intro l
  induction l with
  |nil=>intro _ d hd;cases hd
  | cons a l ih=>
    intro ⟨h1,h2,h3⟩ d hd;rcases qAc.1 hd with rfl|hd
    ·exact⟨h1,h2⟩
    ·exact ih h3 d hd
 refine⟨rfl,rfl,rfl,by rw[sB];simp,λd hd=>?_,λm c c' h1 h2 j e e' h3 h4=>?_⟩
 ·rw[sB,qz1]at hd;obtain⟨d0,hd0,rfl⟩:=hd;obtain⟨k1,k2⟩:=key ds hv d0 hd0;obtain⟨k3,k4⟩:=PN (f:=f) k1;exact⟨k3,by rw[k4,sB,qAs];exact k2⟩
 ·rw[sB,qz7,h1]at h2;cases h2;rw[(PN (key ds hv c (qzY h1)).1).2]at h4;exact Wr SF _ j e e' h3 h4
end
noncomputable def Tr.mapO{α:Type}(f:α->Option α)(t:Tr α):Tr α:=Tr.rec (motive:=λ_=>Tr α) .e (λv _ _ l r=> .n (Option.rec none f v) l r) t
def Tr.get_mapO{α:Type}(f:α->Option α):∀(t:Tr α) (k:Nat),Tr.get (Tr.mapO f t) k=(Tr.get t k).bind f
 | .e,k=>rfl
 | .n v l r,k=>by
   show Tr.get (.n (Option.rec none f v) (Tr.mapO f l) (Tr.mapO f r)) k=_;rw[Tr.get_n,Tr.get_n];split
   ·cases v<;>rfl
   ·split
    ·exact Tr.get_mapO f l _
    ·exact Tr.get_mapO f r _
def qzn:Res->Option Nat
 | .box n _=>some n
 | .iter n _ _=>some n
 | .row (.int _ n) _ _ _=>some n.toNat
 | _=>none
def f1(i j x:Nat):Nat:=match Nat.beq x i with
 |true=>j
 |false=>x
noncomputable def Vm(i j:Nat)(sm nw:List Nat)(s:XS):Option XS:=match s.h.he.get i with
 |none=>none
 | some r=>match s.h.he.get j,gR i (f1 i j) r with
   |none,some r'=>if Nat.beq i j then some s else some ⟨s.l.map (rn (f1 i j)),⟨((Tr.mapO (gR i (f1 i j)) s.h.he).del i).set j r',sm,nw,s.h.n⟩⟩
   | _,_=>none
noncomputable def qiS(i:Nat)(s:XS):Option XS:=match s.h.he.get i with
 |none=>some s
 | some r=>match qzn r with
   |none=>none
   |some m=>if Nat.ble 1000 i then some s else Vm i (1000+m) s.h.sm ((1000+m)::s.h.nw) s
def qvI:CI->List Nat
 | .op _ _ (.store (some r) _ _ _)=>[r]
 | .op _ _ (.append (some r) _ _ _ _ _)=>[r]
 | _=>[]
def qpl(l:List CI):List Nat:=l.flatMap qvI
def qva:CC->List Nat
 | .regd p _=>qpl p
 | .seq (.regd p _) _=>qpl p
 | _=>[]
noncomputable def Vl(l:List Nat):XS->Option XS:=List.rec (motive:=λ_=>XS->Option XS) (λs=>some s) (λr _ ih s=>match sg s.l r with
 | .bptr i _ _=>match Nat.beq i r with
   |true=>ih s
   | false=>match Vm i r (r::s.h.sm) s.h.nw s with
     |some s'=>ih s'
     |none=>none
 | .own i _=>match Nat.beq i r with
   |true=>ih s
   | false=>match Vm i r (r::s.h.sm) s.h.nw s with
     |some s'=>ih s'
     |none=>none
 | _=>none) l
noncomputable def ql5(l:List Nat):XS->Option XS:=List.rec (motive:=λ_=>XS->Option XS) (λs=>some ⟨s.l,⟨s.h.he, [],s.h.nw,s.h.n⟩⟩) (λi _ ih s=>match qiS i s with
 |some s'=>ih s'
 |none=>none) l
noncomputable def qiQ(s:XS):Option XS:=match s.h.sm with
 | []=>some s
 |i::l=>ql5 (i::l) s
def yp(ρ:VL)(s:XS)(σ:Sg)(H:ab):Prop:=ρ.length=s.h.n/\SRep ρ (sg s.l) σ/\HRep ρ s.h.he H
def qmO{ρ:VL}{i j:Nat}{r r' s:Res}(hg:gR i (f1 i j) r=some r')(h:RepR ρ r s):∃s',RepR ρ r' s'/\RFe (λ_=>none) s s':=by
 unfold gR at hg;cases hh:qp4 i r with
 |false=>rw[hh]at hg;cases hg;exact⟨s,h, .inl rfl⟩
 | true=>
   rw[hh]at hg;cases ho:qkS r with
   |false=>rw[ho]at hg;cases hg
   | true=>
     rw[ho]at hg;cases hg;refine⟨qr5 (f1 i j) s,qiN h, .inr ?_⟩;cases h with
     |box n cs ds x b hn hc=>exact⟨rfl,by rw[sB];simp,Wr Zc _⟩
     |row n el w cs ds x b hn hc=>exact qiO hc ho
     |iter n s p x b hn=>exact rfl
theorem qao{ρ:VL}{i j:Nat}{sm nw:List Nat}{s s':XS}(h:Vm i j sm nw s=some s'){σ:Sg}{H:ab}(hr:yp ρ s σ H):∃σ' H',Wk σ H σ' H'/\yp ρ s' σ' H':=by
 have same:∃σ' H',Wk σ H σ' H'/\yp ρ s σ' H':=⟨σ,H,λE a w h=>h,hr⟩
 unfold Vm at h;split at h
 ·cases h
 ·rename_i r hi;split at h
  ·rename_i r' hj hg;split at h
   ·cases h;exact same
   ·rename_i hs;cases h;have hij:i≠j:=λe=>hs (by rw[e];exact Nat.beq_refl j)
    obtain⟨hn,hσ,hH⟩:=hr;have hex:∀x,∃o:Option Res,(∀r0 r1,s.h.he.get x=some r0->gR i (f1 i j) r0=some r1->∃s1,o=some s1/\RepR ρ r1 s1)/\(∀s1,o=some s1->∃s0,H x=some s0/\RFe (λ_=>none) s0 s1):=λx=>by
     cases hx:s.h.he.get x with
     |none=>exact⟨none,λr0 r1 h=>(by cases h),λs1 h=>(by cases h)⟩
     | some r0=>
       cases hg0:gR i (f1 i j) r0 with
       |none=>exact⟨none,λr0' r1 h h2=>(by cases h;rw[hg0]at h2;cases h2),λs1 h=>(by cases h)⟩
       | some r1=>
         obtain⟨s0,k1,k2⟩:=hH x r0 hx;obtain⟨s1,k3,k4⟩:=qmO hg0 k2;refine⟨some s1,λr0' r1' h h2=>?_,λs1' h=>?_⟩
         ·cases h;rw[hg0]at h2;cases h2;exact⟨s1,rfl,k3⟩
         ·cases h;exact⟨s0,k1,k4⟩
    obtain⟨G,hG⟩:=qBS hex;refine⟨λt=>rn (f1 i j) (σ t),λx=>if x=j then G i else if x=i then none else G x,?_,hn,λt=>?_,λx r hx=>?_⟩
    ·refine XM (Hf:=λ_=>none) (λx=>if x=j then i else x) (λt=>qqb _) (λx r hx=>?_) (λx y r q hx hy e=>?_) (λi r h=>by cases h)
     ·left;split at hx
      ·rename_i e;rw[if_pos e];exact(hG i).2 r hx
      ·rename_i e;rw[if_neg e];split at hx
       ·cases hx
       ·exact(hG x).2 r hx
     ·left;split at hx
      ·rename_i e1;rw[if_pos e1]at e;split at hy
       ·rename_i e2;rw[e1,e2]
       ·rename_i e2;rw[if_neg e2]at e;rw[if_pos e.symm]at hy;cases hy
      ·rename_i e1;rw[if_neg e1]at e;split at hx
       ·cases hx
       ·rename_i e3;split at hy
        ·rename_i e2;rw[if_pos e2]at e;exact absurd e e3
        ·rename_i e2;rw[if_neg e2]at e;exact e
    ·show Rep ρ (sg (s.l.map (rn (f1 i j))) t) _;have ht:=hσ t;unfold sg at ht ⊢;rw[Tr.get_map];cases hx:s.l.get t with
     |none=>exact .any _
     |some d=>rw[hx]at ht;exact ql3 _ _ ht
    ·rcases Tr.get_set hx with⟨rfl,rfl⟩|⟨e,hx⟩
     ·obtain⟨s1,k1,k2⟩:=(hG i).1 _ _ hi hg;exact⟨s1,by dsimp only;rw[if_pos rfl];exact k1,k2⟩
     ·obtain⟨e2,hx⟩:=Tr.get_del hx;rw[Tr.get_mapO]at hx;cases hx0:s.h.he.get x with
      |none=>rw[hx0]at hx;cases hx
      | some r0=>
        rw[hx0]at hx;obtain⟨s1,k1,k2⟩:=(hG x).1 _ _ hx0 hx;exact⟨s1,by dsimp only;rw[if_neg e,if_neg e2];exact k1,k2⟩
  ·cases h
def qiR{ρ:VL}{i:Nat}{s s':XS}(h:qiS i s=some s'){σ:Sg}{H:ab}(hr:yp ρ s σ H):∃σ' H',Wk σ H σ' H'/\yp ρ s' σ' H':=by
 have same:∃σ' H',Wk σ H σ' H'/\yp ρ s σ' H':=⟨σ,H,λE a w h=>h,hr⟩
 unfold qiS at h;split at h
 ·cases h;exact same
 ·split at h
  ·cases h
  ·split at h
   ·cases h;exact same
   ·exact qao h hr
theorem RT{ρ:VL} :∀(l:List Nat) {s s':XS},Vl l s=some s'->∀{σ:Sg} {H:ab},yp ρ s σ H->∃σ' H',Wk σ H σ' H'/\yp ρ s' σ' H'
 | [],s,s',h,σ,H,hr=>by
   cases h;exact⟨σ,H,λE a w h=>h,hr⟩
 | r::l,s,s',h,σ,H,hr=>by
   have go:∀i,(match Nat.beq i r with
    |true=>Vl l s
    | false=>match Vm i r (r::s.h.sm) s.h.nw s with
      |some s'=>Vl l s'
      |none=>none)=some s'->∃σ' H',Wk σ H σ' H'/\yp ρ s' σ' H':=λi h=>by
    split at h
    ·exact RT l h hr
    ·split at h
     ·rename_i s1 h1;obtain⟨σ1,H1,w1,r1⟩:=qao h1 hr;obtain⟨σ2,H2,w2,r2⟩:=RT l h r1;exact⟨σ2,H2,λE a w h=>w2 E a w (w1 E a w h),r2⟩
     ·cases h
   have h:(match sg s.l r with
    | .bptr i _ _=>match Nat.beq i r with
      |true=>Vl l s
      | false=>match Vm i r (r::s.h.sm) s.h.nw s with
        |some s'=>Vl l s'
        |none=>none
    | .own i _=>match Nat.beq i r with
      |true=>Vl l s
      | false=>match Vm i r (r::s.h.sm) s.h.nw s with
        |some s'=>Vl l s'
        |none=>none
    | _=>none)=some s':=h
   split at h
   ·exact go _ h
   ·exact go _ h
   ·cases h
def qan{ρ:VL} :∀(l:List Nat) {s s':XS},ql5 l s=some s'->∀{σ:Sg} {H:ab},yp ρ s σ H->∃σ' H',Wk σ H σ' H'/\yp ρ s' σ' H'
 | [],s,s',h,σ,H,hr=>by
   cases h;exact⟨σ,H,λE a w h=>h,hr⟩
 | i::l,s,s',h,σ,H,hr=>by
   have h:(match qiS i s with
    |some s'=>ql5 l s'
    |none=>none)=some s':=h
   split at h
   ·rename_i s1 h1;obtain⟨σ1,H1,w1,r1⟩:=qiR h1 hr;obtain⟨σ2,H2,w2,r2⟩:=qan l h r1;exact⟨σ2,H2,λE a w h=>w2 E a w (w1 E a w h),r2⟩
   ·cases h
def qam{ρ:VL}{s s':XS}(h:qiQ s=some s'){σ:Sg}{H:ab}(hr:yp ρ s σ H):∃σ' H',Wk σ H σ' H'/\yp ρ s' σ' H':=by
 unfold qiQ at h;split at h
 ·cases h;exact⟨σ,H,λE a w h=>h,hr⟩
 ·exact qan _ h hr
end X
end Go.Gv
