/- T51 -/
import Derived.Test.YtilfeahoefpgcaaGreatDoorGc28
set_option linter.all false
set_option maxRecDepth 100000
set_option maxHeartbeats 0
namespace Go.Gv
namespace X
noncomputable def qbP(n:Nat)(d:D)(he:HE):Option (List D):=match d with
 | .v (.string s)=>if Nat.beq n 1 then some (FF s)else none
 | .v (.slice none 0 0)=>some []
 | .list n' es=>if Nat.beq n' n then some es else none
 | .own id x=>match he.get id with
   |some (.row x' _ n' es)=>if ZM x' x && Nat.beq n' n then some es else none
   | _=>none
 | .sub id x n' lo hi=>match he.get id with
   |some (.row x' _ n'' es)=>if ZM x' x && Nat.beq n' n && Nat.beq n'' n then some ((es.take hi).drop lo)else none
   | _=>none
 | _=>none
def qqZ(a b:Nat):Bool:=Nat.ble (a*b) 140737488355328 && Nat.ble a 140737488355328
abbrev WR:=Option (D×HE×Nat)
noncomputable def yw(z:List Value)(dst:Option Nat)(he:HE)(n:Nat):WR:=match dst with
 |some t=>some (.bptr t n 0,he.set t (.box n (z.map qG)),n+1)
 |none=>none
noncomputable def qoU(x:D)(dst:Option Nat)(he:HE)(n:Nat):WR:=match dst with
 |some t=>if x.kn then some (.bptr t n 0,he.set t (.box n x.cells),n+1)else none
 |none=>none
noncomputable def qiq(el w:Nat)(dst:Option Nat)(he:HE)(n:Nat):WR:=match dst with
 |some t=>some (.own t (nm n),he.set t (.row (nm n) el w []),n+1)
 |none=>none
noncomputable def qir(el w:Nat)(ds:List D)(dst:Option Nat)(he:HE)(n:Nat):WR:=match dst with
 |some t=>if D7 w ds then some (.own t (nm n),he.set t (.row (nm n) el w ds),n+1)else none
 |none=>none
noncomputable def qis(el w bytes:Nat)(agg:Bool)(z:List Value)(l c:Option (IntKind×Int))(dst:Option Nat)(he:HE)(n:Nat):WR:=match dst,l,c with
 |some t,some (_,l),some (_,c)=>if decide (0<=l) && decide (l<=c) && decide (bytes*c<=140737488355328) && decide (c<=140737488355328)then some (.own t (nm n),he.set t (.row (nm n) el w (List.replicate l.toNat (if agg then .agg (z.map qG)else qG (z.headD (.bool false))))),n+1)else none
 | _,_,_=>none
noncomputable def qin(sz:Nat)(x y:D)(he:HE)(n:Nat):WR:=if y.kn && Nat.beq y.cells.length sz then(match x with
 | .bptr id b off=>match he.get id with
   |some (.box b' cs)=>if Nat.beq b' b && decide (off+sz<=cs.length)then some (.undef,he.set id (.box b' (setAt cs off y.cells)),n)else none
   | _=>none
 | .eptr id x w i off=>match he.get id with
   | some (.row x' el w' es)=>if ZM x' x && Nat.beq w' w && decide (0<w) && decide (off+sz<=w)then(match es[i]? with
     |some d=>if d.kn then some (.undef,he.set id (.row x' el w' (es.set i (if off=0/\sz=w then y else .agg (setAt d.cells off y.cells)))),n)else none
     |none=>none)else none
   | _=>none
 | _=>none)else none
noncomputable def qio(x:D)(dst:Option Nat)(he:HE)(n:Nat):WR:=match dst,x with
 |some t, .v (.string s)=>some (.bptr t n 0,he.set t (.iter n s 0),n+1)
 | _,_=>none
noncomputable def qip(x:D)(he:HE)(n:Nat):WR:=match x with
 | .bptr id b off=>match he.get id with
   |some (.iter b' s pos)=>if Nat.beq off 0 && Nat.beq b' b then(if pos<s.size then some (.tup [.v (.bool true), .v (.int .i64 pos), .v (.int .i32 (Utf8.decode s pos).1)],he.set id (.iter b' s (pos+ (Utf8.decode s pos).2)),n)else some (.tup [.v (.bool false)],he,n))else none
   | _=>none
 | _=>none
noncomputable def qit(el w bytes:Nat)(x:D)(src:Option (List D))(dst:Option Nat)(he:HE)(n:Nat):WR:=match src with
 | some es2=>match x with
   | .own id x=>match he.get id with
     |some (.row x' el' w' es)=>if ZM x' x && Nat.beq el' el && Nat.beq w' w && qqZ (es.length+es2.length) bytes then some (.own id (nm n),he.set id (.row (nm n) el w (es++es2)),n+1)else none
     | _=>none
   | .v (.slice none 0 0)=>match dst with
     |some t=>if qqZ es2.length bytes then some (.own t (nm n),he.set t (.row (nm n) el w es2),n+1)else none
     |none=>none
   | .sub id x w' lo hi=>match he.get id with
     |some (.row x' el' w'' es)=>if ZM x' x && Nat.beq el' el && Nat.beq w' w && Nat.beq w'' w && Nat.beq lo 0 && qqZ (hi+es2.length) bytes then some (.own id (nm n),he.set id (.row (nm n) el w (es.take hi++es2)),n+1)else none
     | _=>none
   | _=>none
 |none=>none
def qrH(r:Option D)(he:HE)(n:Nat):WR:=match r with
 |some d=>some (d,he,n)
 |none=>none
noncomputable def qgv(c:COp)(dst:Option Nat)(σ:Sg)(he:HE)(n:Nat):WR:=match c with
 | .alloc _ z=>yw z dst he n
 | .box el im x=>match im with
   |false=>qoU (ev σ x) dst he n
   |true=>qrH (cW (.box el true x) σ he) he n
 | .nslice el w=>qiq el w dst he n
 | .mslice el w ps=>qir el w (ps.map (ev σ)) dst he n
 | .mkslice el w bytes agg z l c=>qis el w bytes agg z (mz (ev σ l)) (mz (ev σ c)) dst he n
 | .store _ sz x y=>qin sz (ev σ x) (ev σ y) he n
 | .srange x=>qio (ev σ x) dst he n
 | .snext x=>qip (ev σ x) he n
 | .append _ el w bytes x y=>qit el w bytes (ev σ x) (qbP w (ev σ y) he) dst he n
 | .tbx _ _| .appmk .. | .clear .. | .copy .. | .m _ _| .bad| .call _ _| .callv _ _| .callb _ _ _=>none
 |c=>qrH (cW c σ he) he n
section
variable {ρ:VL}{σe σ:Sg}{he:HE}{H:ab}
def qe3(ρ:VL)(y:Value×Nat):ρ <+:ρ++ [y]:=⟨[y],rfl⟩
def qf8(ρ:VL)(y:Value×Nat):(ρ++ [y])[ρ.length]? =some y:=by simp
def Zu{a b:Nat}(h:qqZ a b=true):a*b<=140737488355328/\a<=140737488355328:=by
 simp only[qqZ,qzT]at h;exact⟨qzU h.1,qzU h.2⟩
def Cz{i m n:Nat}{x y:Value}{b c el w:Nat}{es:List D}(hH:HRep ρ he H)(hg:he.get i=some (.row (nm m) el w es))(hv:ZM (nm m) (nm n)=true)(hn:ρ[n]? =some (x,b)):∃ds,H i=some (.row x el w ds)/\RepL ρ es ds:=by
 obtain⟨r',h1,h2⟩:=hH _ _ hg;cases h2 with
 | row _ _ _ cs ds y b2 hm hc=>
   have ex:=Fp hv hm hn;subst ex;exact⟨ds,h1,hc⟩
def HY{i:Nat}{x:Value}{el w:Nat}{es:List D}(hH:HRep ρ he H)(hg:he.get i=some (.row x el w es)):∃m,x=nm m:=by
 obtain⟨r',h1,h2⟩:=hH _ _ hg;cases h2 with
 |row n=>exact⟨n,rfl⟩
theorem qiG(hH:HRep ρ he H){n:Nat}{d d':D}(hr:Rep ρ d d'){es:List D}(h:qbP n d he=some es){K:List D->Prop}(hK:∀es',RepL ρ es es'->K es'):vO n d' H K:=by
 cases hr<;>try (cases h;done)
 ·rename_i v;unfold qbP at h;split at h<;>rename_i e<;>try (cases e;done)
  ·cases e;split at h
   ·rename_i hn;cases h;refine⟨Nat.eq_of_beq_eq_true hn,hK _ (RepL.same λd hd=>?_)⟩;obtain⟨b,_,rfl⟩:=qzV.1 hd;exact .v _
   ·cases h
  ·cases e;cases h;exact hK _ .nil
  ·cases h
 ·rename_i n' cs ds hl hc;simp only[qbP]at h;split at h
  ·rename_i hn;cases h;exact⟨Nat.eq_of_beq_eq_true hn,hK _ ⟨hl,hc⟩⟩
  ·cases h
 ·rename_i id m x b hn;simp only[qbP]at h;split at h
  ·rename_i x' el w es' hg;split at h
   ·rename_i hb;simp only[qzT]at hb;cases h;obtain⟨k,rfl⟩:=HY hH hg;obtain⟨ds,h1,h2⟩:=Cz (c:=0) (y:= .bool true) hH hg hb.1 hn;show kw n (.own id x) H K;simp only[kw,h1];exact⟨trivial,Nat.eq_of_beq_eq_true hb.2,hK _ h2⟩
   ·cases h
  ·cases h
 ·rename_i id m w lo hi x b hn;simp only[qbP]at h;split at h
  ·rename_i x' el w' es' hg;split at h
   ·rename_i hb;simp only[qzT]at hb;cases h;obtain⟨k,rfl⟩:=HY hH hg;obtain⟨ds,h1,h2⟩:=Cz (c:=0) (y:= .bool true) hH hg hb.1.1 hn;show kw n (.sub id x w lo hi) H K;simp only[kw,h1];exact⟨trivial,Nat.eq_of_beq_eq_true hb.1.2,Nat.eq_of_beq_eq_true hb.2,hK _ ((h2.take hi).drop lo)⟩
   ·cases h
  ·cases h
def qeV(agg:Bool)(z:List Value):Rep ρ (if agg then D.agg (z.map qG)else qG (z.headD (.bool false))) (if agg then D.agg (z.map qG)else qG (z.headD (.bool false))):=by
 cases agg
 ·exact RT _
 ·exact .agg _ _ rfl (Mj z).2
theorem qmU(hσ:SRep ρ σe σ)(hH:HRep ρ he H){n n':Nat}(hn:ρ.length=n){c:COp}{dst:Option Nat}{d:D}{he':HE}(h:qgv c dst σe he n=some (d,he',n')){K:D->ab->Prop}
 (hK:∀(ρ':VL) (d':D) (H':ab),ρ <+:ρ'->ρ'.length=n'->Rep ρ' d d'->HRep ρ' he' H'->K d' H'):bu c dst σ H K:=by
 have rd:∀c:COp,qrH (cW c σe he) he n=some (d,he',n')->aj c σ H λd=>K d H:=λc h=>by
  unfold qrH at h;split at h
  ·rename_i d0 h0;cases h;exact IK hσ hH h0 λd' hd'=>hK ρ d' H (List.prefix_refl ρ) hn hd' hH
  ·cases h
 have one:∀y:Value×Nat,ρ <+:ρ++ [y]/\(ρ++ [y]).length=n+1/\(ρ++ [y])[n]? =some y:=λy=>⟨qe3 ρ y,by simp[hn],by rw[<-hn];exact qf8 ρ y⟩
 cases c
 case alloc el z=>
  simp only[qgv,yw,qiq,qir,qis,qin,qio,qip,qit]at h;split at h
  ·cases h;intro b;obtain⟨o1,o2,o3⟩:=one (.bool true,b);exact hK _ _ _ o1 o2 (.bptr _ _ _ _ _ o3) ((hH.mono o1).set (.box _ _ _ _ _ o3 (Mj z)))
  ·cases h
 case box el im x=>
  cases im with
  |true=>exact rd _ h
  | false=>
    simp only[qgv,qoU]at h;split at h
    ·split at h
     ·rename_i hk;cases h;have hx:=bh hσ x;refine⟨hx.kn hk,λb=>?_⟩;obtain⟨o1,o2,o3⟩:=one (.bool true,b);exact hK _ _ _ o1 o2 (.bptr _ _ _ _ _ o3) ((hH.mono o1).set (.box _ _ _ _ _ o3 ((hx.cells hk).mono o1)))
     ·cases h
    ·cases h
 case nslice el w=>
  simp only[qgv,yw,qiq,qir,qis,qin,qio,qip,qit]at h;split at h
  ·cases h;intro x;obtain⟨o1,o2,o3⟩:=one (x,0);exact hK _ _ _ o1 o2 (.own _ _ _ _ o3) ((hH.mono o1).set (.row _ _ _ _ _ _ _ o3 .nil))
  ·cases h
 case mslice el w ps=>
  simp only[qgv,yw,qiq,qir,qis,qin,qio,qip,qit]at h;split at h
  ·split at h
   ·rename_i hp;cases h;have hr:=zK hσ ps;refine⟨CA hr hp,λx=>?_⟩;obtain⟨o1,o2,o3⟩:=one (x,0);exact hK _ _ _ o1 o2 (.own _ _ _ _ o3) ((hH.mono o1).set (.row _ _ _ _ _ _ _ o3 (hr.mono o1)))
   ·cases h
  ·cases h
 case mkslice el w bytes agg z l c=>
  simp only[qgv,yw,qiq,qir,qis,qin,qio,qip,qit]at h;split at h
  ·rename_i t k1 l' k2 c' e1 e2;split at h
   ·rename_i hb;simp only[qzT,decide_eq_true_eq]at hb;cases h;simp only[bu,Ti hσ e1,Ti hσ e2];refine⟨hb.1.1.1,hb.1.1.2,hb.1.2,hb.2,λx=>?_⟩;obtain⟨o1,o2,o3⟩:=one (x,0);exact hK _ _ _ o1 o2 (.own _ _ _ _ o3) ((hH.mono o1).set (.row _ _ _ _ _ _ _ o3 (RepL.rep (qeV agg z) _)))
   ·cases h
  ·cases h
 case store rt sz x y=>
  simp only[qgv,yw,qiq,qir,qis,qin,qio,qip,qit]at h;split at h
  ·rename_i hy;simp only[qzT]at hy;have ry:=bh hσ y;have cy:=ry.cells hy.1;refine⟨ry.kn hy.1,by rw[<-cy.1];exact Nat.eq_of_beq_eq_true hy.2,?_⟩;have rx:=bh hσ x;generalize ev σe x=a at h rx;generalize ev σ x=b at rx;cases rx<;>try (cases h;done)
   ·rename_i id m off x b hm;dsimp only at h ⊢;split at h
    ·rename_i b' cs hg;split at h
     ·rename_i hb;simp only[qzT,decide_eq_true_eq]at hb;cases h;obtain⟨r',h1,h2⟩:=hH _ _ hg;rw[h1];cases h2 with
      | box n2 cs ds x' b2 hn' hc=>
        have e:=Nat.eq_of_beq_eq_true hb.1;subst e;rw[hm]at hn';cases hn';exact⟨rfl,by rw[<-hc.1];exact hb.2,hK ρ _ _ (List.prefix_refl ρ) hn .undef (hH.set (.box _ _ _ _ _ hm (H4 hc cy off)))⟩
     ·cases h
    ·cases h
   ·rename_i id m w i off x b hm;dsimp only at h ⊢;split at h
    ·rename_i x' el w' es hg;split at h
     ·rename_i hb;simp only[qzT,decide_eq_true_eq]at hb;obtain⟨k,rfl⟩:=HY hH hg;obtain⟨ds,h1,h2⟩:=Cz (c:=0) (y:= .bool true) hH hg hb.1.1.1 hm;have ew:=Nat.eq_of_beq_eq_true hb.1.1.2;subst ew;split at h
      ·rename_i d0 hd0;split at h
       ·rename_i hk;cases h;obtain⟨d1,hd1,hr⟩:=h2.get hd0;rw[h1];refine⟨rfl,rfl,hb.1.2,hb.2,(qzP.1 hd1).1,λd2 hd2=>?_⟩;rw[hd1]at hd2;cases hd2;have hkm:ρ[k]? =some (x,b):=by
         have:=hb.1.1.1;simp only[ZM,decide_eq_true_eq]at this;have:k=m:=by omega
         subst this;exact hm
        refine hK ρ _ _ (List.prefix_refl ρ) hn .undef (hH.set (.row _ _ _ _ _ _ _ hkm (h2.set ?_)));split
        ·exact ry
        ·have q:=H4 (hr.cells hk) cy off;exact .agg _ _ q.1 q.2
       ·cases h
      ·cases h
     ·cases h
    ·cases h
  ·cases h
 case srange x=>
  simp only[qgv,yw,qiq,qir,qis,qin,qio,qip,qit]at h;split at h
  ·rename_i t s e;cases h;have hx:=bh hσ x;rw[e]at hx;simp only[bu];generalize ev σ x=q at hx;cases hx;intro b;obtain⟨o1,o2,o3⟩:=one (.bool true,b);exact hK _ _ _ o1 o2 (.bptr _ _ _ _ _ o3) ((hH.mono o1).set (.iter _ _ _ _ _ o3))
  ·cases h
 case snext x=>
  simp only[qgv,yw,qiq,qir,qis,qin,qio,qip,qit]at h;simp only[bu];have rx:=bh hσ x;generalize ev σe x=a at h rx;generalize ev σ x=b at rx;cases rx<;>try (cases h;done)
  rename_i id m off x b hm;dsimp only at h ⊢;split at h
  ·rename_i b' s pos hg;split at h
   ·rename_i hb;simp only[qzT]at hb;obtain⟨r',h1,h2⟩:=hH _ _ hg;have e:=Nat.eq_of_beq_eq_true hb.2;subst e;rw[h1];cases h2 with
    | iter _ _ _ x' b2 hn'=>
      rw[hm]at hn';cases hn';have tk:∀p q:Value,RepL ρ [.v (.bool true), .v p, .v q] [.v (.bool true), .v p, .v q]:=λp q=> .cons (.v _) (.cons (.v _) (.cons (.v _) .nil))
      have tf:RepL ρ [.v (.bool false)] [.v (.bool false)]:= .cons (.v _) .nil;refine⟨Nat.eq_of_beq_eq_true hb.1,rfl,λhp=>?_,λhp=>?_⟩
      ·rw[if_pos hp]at h;cases h;exact hK ρ _ _ (List.prefix_refl ρ) hn (.tup _ _ rfl (tk _ _).2) (hH.set (.iter _ _ _ _ _ hm))
      ·rw[if_neg hp]at h;cases h;exact hK ρ _ _ (List.prefix_refl ρ) hn (.tup _ _ rfl tf.2) hH
   ·cases h
  ·cases h
 case append rt el w bytes x y=>
  simp only[qgv,yw,qiq,qir,qis,qin,qio,qip,qit]at h;simp only[bu];split at h
  ·rename_i es2 he2;refine qiG hH (bh hσ y) he2 λes2' hr2=>?_
   have rx:=bh hσ x;generalize ev σe x=a at h rx;generalize ev σ x=b at rx;cases rx<;>try (cases h;done)
   ·rename_i v;split at h<;>rename_i e<;>try (cases e;done)
    ·cases e;split at h
     ·split at h
      ·rename_i hb;cases h;have hb:=Zu hb;rw[hr2.1]at hb;refine⟨hb.1,hb.2,λv=>?_⟩;obtain⟨o1,o2,o3⟩:=one (v,0);exact hK _ _ _ o1 o2 (.own _ _ _ _ o3) ((hH.mono o1).set (.row _ _ _ _ _ _ _ o3 (hr2.mono o1)))
      ·cases h
     ·cases h
    ·cases h
   ·rename_i id m x b hm;dsimp only at h ⊢;split at h
    ·rename_i x' el' w' es hg;split at h
     ·rename_i hb;simp only[qzT]at hb;cases h;obtain⟨k,rfl⟩:=HY hH hg;obtain⟨ds,h1,h2⟩:=Cz (c:=0) (y:= .bool true) hH hg hb.1.1.1 hm;have hbd:=Zu hb.2;rw[hr2.1,h2.1]at hbd;rw[h1];refine⟨rfl,Nat.eq_of_beq_eq_true hb.1.1.2,Nat.eq_of_beq_eq_true hb.1.2,hbd.1,hbd.2,λv=>?_⟩;obtain⟨o1,o2,o3⟩:=one (v,0);exact hK _ _ _ o1 o2 (.own _ _ _ _ o3) ((hH.mono o1).set (.row _ _ _ _ _ _ _ o3 ((h2.append hr2).mono o1)))
     ·cases h
    ·cases h
   ·rename_i id m w' lo hi x b hm;dsimp only at h ⊢;split at h
    ·rename_i x' el' w'' es hg;split at h
     ·rename_i hb;simp only[qzT]at hb;cases h;obtain⟨k,rfl⟩:=HY hH hg;obtain⟨ds,h1,h2⟩:=Cz (c:=0) (y:= .bool true) hH hg hb.1.1.1.1.1 hm;have hbd:=Zu hb.2;rw[hr2.1]at hbd;rw[h1];refine⟨rfl,Nat.eq_of_beq_eq_true hb.1.1.1.1.2,Nat.eq_of_beq_eq_true hb.1.1.1.2,Nat.eq_of_beq_eq_true hb.1.1.2,Nat.eq_of_beq_eq_true hb.1.2,hbd.1,hbd.2,λv=>?_⟩;obtain⟨o1,o2,o3⟩:=one (v,0);exact hK _ _ _ o1 o2 (.own _ _ _ _ o3) ((hH.mono o1).set (.row _ _ _ _ _ _ _ o3 (((h2.take hi).append hr2).mono o1)))
     ·cases h
    ·cases h
  ·cases h
 case mv x=>exact rd (.mv x) h
 case clo f caps=>exact rd (.clo f caps) h
 all_goals first
  |(cases h;done)
  |exact rd _ h
end
abbrev SL:=Tr D
structure XH where
 he:HE
 sm:List Nat
 nw:List Nat
 n:Nat
structure XS where
 l:SL
 h:XH
abbrev CF:=Nat->List D->XH->Option (D×XH)
noncomputable def sg(l:SL):Sg:=λt=>match l.get t with
 |some d=>d
 |none=> .any
noncomputable def uO(l:SL)(d:Option Nat)(x:D):SL:=match d with
 |some t=>l.set t x
 |none=>l
def qpe(d:D)(l:List Nat):List Nat:=match d with
 | .own i _=>if Nat.ble 1000 i then l else i::l
 | .bptr i _ _=>if Nat.ble 1000 i then l else i::l
 | _=>l
noncomputable def xW(c:COp)(dst:Option Nat)(σ:Sg)(h:XH):Option (D×XH):=match qgv c dst σ h.he h.n with
 |some (d,he',n')=>some (d,⟨he',Bool.rec (qpe d h.sm) h.sm (Nat.beq n' h.n),h.nw,n'⟩)
 |none=>none
def TC(h:XH)(r:Option (D×XH)):Option (D×XH):=match r with
 |some (d,h')=>some (d,⟨h'.he,h'.sm++h.sm,h'.nw++h.nw,h'.n⟩)
 |none=>none
noncomputable def qjU(cf:CF)(c:COp)(dst:Option Nat)(σ:Sg)(h:XH):Option (D×XH):=match c with
 | .call f args=>TC h (cf f (args.map (ev σ)) ⟨h.he, [], [],h.n⟩)
 | .callb _ f args=>TC h (cf f (args.map (ev σ)) ⟨h.he, [], [],h.n⟩)
 | .callv f args=>match ev σ f with
   | .clo g caps=>TC h (cf g (args.map (ev σ) ++caps) ⟨h.he, [], [],h.n⟩)
   | _=>none
 |c=>xW c dst σ h
noncomputable def qs6(g:Option (Nat×Bool))(l:SL):Option Bool:=match g with
 |none=>some true
 | some (s,b)=>match sg l s with
   | .v (.bool t)=>some (t==b)
   | .undef=>some false
   | _=>none
noncomputable def qkJ(cf:CF)(ci:CI)(s:XS)(ih:XS->Option XS):Option XS:=match ci with
 | .frz _ _=>none
 | .op dst g c=>match qs6 g s.l with
   | some true=>match qjU cf c dst (sg s.l) s.h with
     |some (d,h')=>ih ⟨uO s.l dst d,h'⟩
     |none=>none
   |some false=>ih ⟨uO s.l dst .undef,s.h⟩
   |none=>none
noncomputable def qtl(cf:CF)(ls:List CI):XS->Option XS:=List.rec (motive:=λ_=>XS->Option XS) (λs=>some s) (λci _ ih s=>qkJ cf ci s ih) ls
def qpV:COp->Bool
 | .alloc _ _| .box _ false _| .nslice _ _| .mslice .. | .mkslice .. =>true
 | _=>false
abbrev PF:=Nat->List D->Option D
noncomputable def qvC(w:Option Nat)(he:HE):HE:=match w with
 |some t=>if Nat.beq (SA t) 0 then .e else he.del t
 |none=>he
noncomputable def mk:List CI->HE->HE
 | [],he=>he
 | .frz _ _::_,he=>he
 | .op d _ c::l,he=>qvC (c.wid d) (mk l he)
noncomputable def quS(pf:PF)(ci:CI)(r:List CI)(hr:HE)(s:XS)(ih:HE->XS->Option XS):Option XS:=match ci with
 | .frz _ _=>ih (mk r hr) s
 | .op dst g c=>match qs6 g s.l with
   | some true=>match c with
     | .call f args=>match pf f (args.map (ev (sg s.l)))with
       |some d=>ih hr ⟨uO s.l dst d,s.h⟩
       |none=>none
     | c=>if qpV c then(match xW c dst (sg s.l) s.h with
        |some (d,h')=>ih hr ⟨uO s.l dst d,h'⟩
        |none=>none)
       else if c.isRead then(match cW c (sg s.l) hr with
        |some d=>ih hr ⟨uO s.l dst d,s.h⟩
        |none=>none)else none
   |some false=>ih hr ⟨uO s.l dst .undef,s.h⟩
   |none=>none
noncomputable def qtk(pf:PF)(ls:List CI):HE->XS->Option XS:=List.rec (motive:=λ_=>HE->XS->Option XS) (λ_ s=>some s) (λci r ih hr s=>quS pf ci r hr s ih) ls
end X
variable {dq:Prop}
namespace X
noncomputable def lm(f:D->D)(l:List D):List D:=List.rec (motive:=λ_=>List D) [] (λd _ ih=>f d::ih) l
def sB(f:D->D):∀l,lm f l=l.map f
 | []=>rfl
 | d::l=>by
   show f d::lm f l=_;rw[sB f l];rfl
noncomputable def la(p:D->Bool)(l:List D):Bool:=List.rec (motive:=λ_=>Bool) false (λd _ ih=>Bool.rec ih true (p d)) l
def qdl(f:Nat->Nat):D->D
 | .own i x=> .own (f i) x
 | .bptr i b o=> .bptr (f i) b o
 |d=>d
noncomputable def qeT(f:Nat->Nat):D->D
 | .agg cs=> .agg (lm (qdl f) cs)
 |d=>qdl f d
noncomputable def rn(f:Nat->Nat):D->D
 | .tup ds=> .tup (lm (qeT f) ds)
 | .clo g cs=> .clo g (lm (qdl f) cs)
 |d=>qeT f d
section
variable {Hf:ab}{f:Nat->Nat}{ρ:VL}
def Wo{g:D->D}(h:∀d,FrzTo Hf d (g d))(l:List D)(k:Nat)(c c':D)(h1:l[k]? =some c)(h2:(lm g l)[k]? =some c'):FrzTo Hf c c':=by
 rw[sB,qz1,h1]at h2;cases h2;exact h c
def SF(d:D):FrzTo Hf d (qdl f d):=by
 cases d<;>first|exact .own _ _ _|exact .bptr _ _ _ _|exact .same _
def Zb(d:D):FrzTo Hf d (qeT f d):=by
 cases d
 case agg cs=>exact .agg (by rw[sB];simp) (Wo SF cs)
 all_goals exact SF (f:=f) _
def qqb(d:D):FrzTo Hf d (rn f d):=by
 cases d
 case tup cs=>exact .tup (by rw[sB];simp) (Wo Zb cs)
 case clo g cs=>exact .clo (by rw[sB];simp) (Wo SF cs)
 all_goals exact Zb (f:=f) _
def Mi{g:D->D}(h:∀c d,Rep ρ c d->Rep ρ (g c) (g d)){cs ds:List D}(hl:RepL ρ cs ds):RepL ρ (lm g cs) (lm g ds):=by
 rw[sB,sB];refine⟨by simpa using hl.1,λk c d h1 h2=>?_⟩;rw[qz1,qz0]at h1 h2;obtain⟨c0,h1,rfl⟩:=h1;obtain⟨d0,h2,rfl⟩:=h2;exact h _ _ (hl.2 k c0 d0 h1 h2)
def qai(c d:D)(h:Rep ρ c d):Rep ρ (qdl f c) (qdl f d):=by
 cases h with
 |any d=>exact .any _
 |undef=>exact .undef
 |v x=>exact .v x
 |agg cs ds hl h=>exact .agg cs ds hl h
 |tup cs ds hl h=>exact .tup cs ds hl h
 |clo g cs ds hl h=>exact .clo g cs ds hl h
 |list n cs ds hl h=>exact .list n cs ds hl h
 |cptr cs ds off hl h=>exact .cptr cs ds off hl h
 |own id n x b h=>exact .own _ n x b h
 |bptr id n off x b h=>exact .bptr _ n off x b h
 |eptr id n w i off x b h=>exact .eptr id n w i off x b h
 |sub id n w lo hi x b h=>exact .sub id n w lo hi x b h
def K6(c d:D)(h:Rep ρ c d):Rep ρ (qeT f c) (qeT f d):=by
 cases h with
 |any d=>exact .any _
 |agg cs ds hl h=>have q:=Mi (qai (f:=f)) (⟨hl,h⟩:RepL ρ cs ds);exact .agg _ _ q.1 q.2
 |clo g cs ds hl h=>exact .clo g cs ds hl h
 |undef=>exact .undef
 |v x=>exact .v x
 |tup cs ds hl h=>exact .tup cs ds hl h
 |list n cs ds hl h=>exact .list n cs ds hl h
 |cptr cs ds off hl h=>exact .cptr cs ds off hl h
 |own id n x b h=>exact .own _ n x b h
 |bptr id n off x b h=>exact .bptr _ n off x b h
 |eptr id n w i off x b h=>exact .eptr id n w i off x b h
 |sub id n w lo hi x b h=>exact .sub id n w lo hi x b h
def ql5(c d:D)(h:Rep ρ c d):Rep ρ (rn f c) (rn f d):=by
 cases h with
 |any d=>exact .any _
 |tup cs ds hl h=>have q:=Mi (K6 (f:=f)) (⟨hl,h⟩:RepL ρ cs ds);exact .tup _ _ q.1 q.2
 |agg cs ds hl h=>exact K6 _ _ (.agg cs ds hl h)
 |clo g cs ds hl h=>have q:=Mi (qai (f:=f)) (⟨hl,h⟩:RepL ρ cs ds);exact .clo g _ _ q.1 q.2
 |undef=>exact .undef
 |v x=>exact .v x
 |list n cs ds hl h=>exact .list n cs ds hl h
 |cptr cs ds off hl h=>exact .cptr cs ds off hl h
 |own id n x b h=>exact .own _ n x b h
 |bptr id n off x b h=>exact .bptr _ n off x b h
 |eptr id n w i off x b h=>exact .eptr id n w i off x b h
 |sub id n w lo hi x b h=>exact .sub id n w lo hi x b h
noncomputable def qr3(f:Nat->Nat):Res->Res
 | .box b cs=> .box b (lm (qeT f) cs)
 | .row x el n es=> .row x el n (lm (qeT f) es)
 |r=>r
def qs2(i:Nat):D->Bool
 | .own j _=>Nat.beq j i
 | .bptr j _ _=>Nat.beq j i
 | _=>false
noncomputable def qp5(i:Nat):D->Bool
 | .agg cs=>la (qs2 i) cs
 |d=>qs2 i d
noncomputable def qp4(i:Nat):Res->Bool
 | .box _ cs=>la (qp5 i) cs
 | .row _ _ _ es=>la (qp5 i) es
 | _=>false
def qkV:Res->Bool
 | .row _ _ n es=>D7 n es
 | _=>true
noncomputable def gR(i:Nat)(f:Nat->Nat)(r:Res):Option Res:=Bool.rec (some r) (Bool.rec none (some (qr3 f r)) (qkV r)) (qp4 i r)
def qiS{r s:Res}(h:RepR ρ r s):RepR ρ (qr3 f r) (qr3 f s):=by
 cases h with
 |box n cs ds x b h hc=>exact .box _ _ _ _ _ h (Mi K6 hc)
 |row n el w cs ds x b h hc=>exact .row _ _ _ _ _ _ _ h (Mi K6 hc)
 |iter n s p x b h=>exact .iter _ _ _ _ _ h
def PN{c:D}(hk:c.kn=true):(qeT f c).kn=true/\(qeT f c).cells=lm (qdl f) c.cells:=by
 cases c<;>first
  |(simp[D.kn]at hk;done)
  |exact⟨rfl,rfl⟩
  |(refine⟨rfl,?_⟩;simp[qeT,qdl,D.cells,lm])
theorem qiT{x:Value}{el n:Nat}{cs ds:List D}(h:RepL ρ cs ds)(hp:D7 n cs=true):RFz Hf (.row x el n ds) (.row x el n (lm (qeT f) ds)):=by
 have hv:=CA h hp;have key:∀l:List D,jY n l->∀d∈l,d.kn=true/\d.cells.length=n:=by
  intro l
  induction l with
  |nil=>intro _ d hd;cases hd
  | cons a l ih=>
    intro ⟨h1,h2,h3⟩ d hd;rcases qz4.1 hd with rfl|hd
    ·exact⟨h1,h2⟩
    ·exact ih h3 d hd
 refine⟨rfl,rfl,rfl,by rw[sB];simp,λd hd=>?_,λm c c' h1 h2 j e e' h3 h4=>?_⟩
 ·rw[sB,qzV]at hd;obtain⟨d0,hd0,rfl⟩:=hd;obtain⟨k1,k2⟩:=key ds hv d0 hd0;obtain⟨k3,k4⟩:=PN (f:=f) k1;exact⟨k3,by rw[k4,sB,qAl];exact k2⟩
 ·rw[sB,qz1,h1]at h2;cases h2;rw[(PN (key ds hv c (qzS h1)).1).2]at h4;exact Wo SF _ j e e' h3 h4
end
noncomputable def Tr.mapO{α:Type}(f:α->Option α)(t:Tr α):Tr α:=Tr.rec (motive:=λ_=>Tr α) .e (λv _ _ l r=> .n (Option.rec none f v) l r) t
def Tr.get_mapO{α:Type}(f:α->Option α):∀(t:Tr α) (k:Nat),Tr.get (Tr.mapO f t) k=(Tr.get t k).bind f
 | .e,k=>rfl
 | .n v l r,k=>by
   show Tr.get (.n (Option.rec none f v) (Tr.mapO f l) (Tr.mapO f r)) k=_;rw[Tr.get_n,Tr.get_n];split
   ·cases v<;>rfl
   ·split
    ·exact Tr.get_mapO f l _
    ·exact Tr.get_mapO f r _
def qzh:Res->Option Nat
 | .box n _=>some n
 | .iter n _ _=>some n
 | .row (.int _ n) _ _ _=>some n.toNat
 | _=>none
def f1(i j x:Nat):Nat:=match Nat.beq x i with
 |true=>j
 |false=>x
noncomputable def qiX(i:Nat)(s:XS):Option XS:=match s.h.he.get i with
 |none=>some s
 | some r=>match qzh r with
   |none=>none
   | some m=>match s.h.he.get (1000+m),gR i (f1 i (1000+m)) r with
     |none,some r'=>if Nat.ble 1000 i then some s else some ⟨s.l.map (rn (f1 i (1000+m))),⟨((Tr.mapO (gR i (f1 i (1000+m))) s.h.he).del i).set (1000+m) r',s.h.sm,(1000+m)::s.h.nw,s.h.n⟩⟩
     | _,_=>none
noncomputable def ql7(l:List Nat):XS->Option XS:=List.rec (motive:=λ_=>XS->Option XS) (λs=>some ⟨s.l,⟨s.h.he, [],s.h.nw,s.h.n⟩⟩) (λi _ ih s=>match qiX i s with
 |some s'=>ih s'
 |none=>none) l
noncomputable def qiV(s:XS):Option XS:=match s.h.sm with
 | []=>some s
 |i::l=>ql7 (i::l) s
def Hb(ρ:VL)(s:XS)(σ:Sg)(H:ab):Prop:=ρ.length=s.h.n/\SRep ρ (sg s.l) σ/\HRep ρ s.h.he H
def qmQ{ρ:VL}{i j:Nat}{r r' s:Res}(hg:gR i (f1 i j) r=some r')(h:RepR ρ r s):∃s',RepR ρ r' s'/\RFe (λ_=>none) s s':=by
 unfold gR at hg;cases hh:qp4 i r with
 |false=>rw[hh]at hg;cases hg;exact⟨s,h, .inl rfl⟩
 | true=>
   rw[hh]at hg;cases ho:qkV r with
   |false=>rw[ho]at hg;cases hg
   | true=>
     rw[ho]at hg;cases hg;refine⟨qr3 (f1 i j) s,qiS h, .inr ?_⟩;cases h with
     |box n cs ds x b hn hc=>exact⟨rfl,by rw[sB];simp,Wo Zb _⟩
     |row n el w cs ds x b hn hc=>exact qiT hc ho
     |iter n s p x b hn=>exact rfl
theorem qiW{ρ:VL}{i:Nat}{s s':XS}(h:qiX i s=some s'){σ:Sg}{H:ab}(hr:Hb ρ s σ H):∃σ' H',Wk σ H σ' H'/\Hb ρ s' σ' H':=by
 have same:∃σ' H',Wk σ H σ' H'/\Hb ρ s σ' H':=⟨σ,H,λE a w h=>h,hr⟩
 unfold qiX at h;split at h
 ·cases h;exact same
 ·rename_i r hi;split at h
  ·cases h
  ·rename_i m hm;split at h
   ·rename_i r' hj hg;split at h
    ·cases h;exact same
    ·rename_i hs;cases h;generalize hjj:1000+m=j at*;have hij:i≠j:=λe=>hs (by rw[e,<-hjj];exact Nat.ble_eq_true_of_le (by omega))
     obtain⟨hn,hσ,hH⟩:=hr;have hex:∀x,∃o:Option Res,(∀r0 r1,s.h.he.get x=some r0->gR i (f1 i j) r0=some r1->∃s1,o=some s1/\RepR ρ r1 s1)/\(∀s1,o=some s1->∃s0,H x=some s0/\RFe (λ_=>none) s0 s1):=λx=>by
      cases hx:s.h.he.get x with
      |none=>exact⟨none,λr0 r1 h=>(by cases h),λs1 h=>(by cases h)⟩
      | some r0=>
        cases hg0:gR i (f1 i j) r0 with
        |none=>exact⟨none,λr0' r1 h h2=>(by cases h;rw[hg0]at h2;cases h2),λs1 h=>(by cases h)⟩
        | some r1=>
          obtain⟨s0,k1,k2⟩:=hH x r0 hx;obtain⟨s1,k3,k4⟩:=qmQ hg0 k2;refine⟨some s1,λr0' r1' h h2=>?_,λs1' h=>?_⟩
          ·cases h;rw[hg0]at h2;cases h2;exact⟨s1,rfl,k3⟩
          ·cases h;exact⟨s0,k1,k4⟩
     obtain⟨G,hG⟩:=qBM hex;refine⟨λt=>rn (f1 i j) (σ t),λx=>if x=j then G i else if x=i then none else G x,?_,hn,λt=>?_,λx r hx=>?_⟩
     ·refine XL (Hf:=λ_=>none) (λx=>if x=j then i else x) (λt=>qqb _) (λx r hx=>?_) (λx y r q hx hy e=>?_) (λi r h=>by cases h)
      ·left;split at hx
       ·rename_i e;rw[if_pos e];exact(hG i).2 r hx
       ·rename_i e;rw[if_neg e];split at hx
        ·cases hx
        ·exact(hG x).2 r hx
      ·left;split at hx
       ·rename_i e1;rw[if_pos e1]at e;split at hy
        ·rename_i e2;rw[e1,e2]
        ·rename_i e2;rw[if_neg e2]at e;rw[if_pos e.symm]at hy;cases hy
       ·rename_i e1;rw[if_neg e1]at e;split at hx
        ·cases hx
        ·rename_i e3;split at hy
         ·rename_i e2;rw[if_pos e2]at e;exact absurd e e3
         ·rename_i e2;rw[if_neg e2]at e;exact e
     ·show Rep ρ (sg (s.l.map (rn (f1 i j))) t) _;have ht:=hσ t;unfold sg at ht ⊢;rw[Tr.get_map];cases hx:s.l.get t with
      |none=>exact .any _
      |some d=>rw[hx]at ht;exact ql5 _ _ ht
     ·rcases Tr.get_set hx with⟨rfl,rfl⟩|⟨e,hx⟩
      ·obtain⟨s1,k1,k2⟩:=(hG i).1 _ _ hi hg;exact⟨s1,by dsimp only;rw[if_pos rfl];exact k1,k2⟩
      ·obtain⟨e2,hx⟩:=Tr.get_del hx;rw[Tr.get_mapO]at hx;cases hx0:s.h.he.get x with
       |none=>rw[hx0]at hx;cases hx
       | some r0=>
         rw[hx0]at hx;obtain⟨s1,k1,k2⟩:=(hG x).1 _ _ hx0 hx;exact⟨s1,by dsimp only;rw[if_neg e,if_neg e2];exact k1,k2⟩
   ·cases h
def qak{ρ:VL} :∀(l:List Nat) {s s':XS},ql7 l s=some s'->∀{σ:Sg} {H:ab},Hb ρ s σ H->∃σ' H',Wk σ H σ' H'/\Hb ρ s' σ' H'
 | [],s,s',h,σ,H,hr=>by
   cases h;exact⟨σ,H,λE a w h=>h,hr⟩
 | i::l,s,s',h,σ,H,hr=>by
   have h:(match qiX i s with
    |some s'=>ql7 l s'
    |none=>none)=some s':=h
   split at h
   ·rename_i s1 h1;obtain⟨σ1,H1,w1,r1⟩:=qiW h1 hr;obtain⟨σ2,H2,w2,r2⟩:=qak l h r1;exact⟨σ2,H2,λE a w h=>w2 E a w (w1 E a w h),r2⟩
   ·cases h
def qaj{ρ:VL}{s s':XS}(h:qiV s=some s'){σ:Sg}{H:ab}(hr:Hb ρ s σ H):∃σ' H',Wk σ H σ' H'/\Hb ρ s' σ' H':=by
 unfold qiV at h;split at h
 ·cases h;exact⟨σ,H,λE a w h=>h,hr⟩
 ·exact qak _ h hr
end X
namespace X
def qhR(S:Nat->Spc)(cf:CF):Prop:=∀f args h r h',cf f args h=some (r,h')->∀(ρ:VL) (ds:List D) (H:ab) (K:D->ab->Prop) (d:Nat),ρ.length=h.n->RepL ρ args ds->HRep ρ h.he H->
 (∀(ρ':VL) (r':D) (H':ab),ρ <+:ρ'->ρ'.length=h'.n->Rep ρ' r r'->HRep ρ' h'.he H'->K r' H')->(S f).pt d ds H K
def qkv(S:Nat->Spc)(pf:PF):Prop:=∀f args r,pf f args=some r->∀(ρ:VL) (ds:List D),RepL ρ args ds->∃pc,S f= .pure pc/\pc.pre ds/\∀r',pc.post ds r'->Rep ρ r r'
section
variable {ρ:VL}{l:SL}{σ:Sg}{H:ab}{S:Nat->Spc}{cf:CF}{pf:PF}
def SRep.up{ρ':VL}(hp:ρ <+:ρ')(h:SRep ρ (sg l) σ){dst:Option Nat}{d d':D}(hd:Rep ρ' d d'):SRep ρ' (sg (uO l dst d)) (fq σ dst d'):=λt=>by
 cases dst with
 |none=>exact(h t).mono hp
 | some s=>
   have ht:=h t;simp only[uO,fq,upd];unfold sg at ht ⊢;split
   ·rename_i d1 hg;rcases Tr.get_set hg with⟨rfl,rfl⟩|⟨e,hg⟩
    ·rw[if_pos rfl];exact hd
    ·rw[if_neg e];rw[hg]at ht;exact ht.mono hp
   ·exact .any _
theorem qaN{g:Option (Nat×Bool)}{b:Bool}(h:qs6 g l=some b)(hσ:SRep ρ (sg l) σ){yes no:Sg->Prop}(hy:b=true->∀σ',SRep ρ (sg l) σ'->yes σ')(hn:b=false->∀σ',SRep ρ (sg l) σ'->no σ'):mS g σ yes no:=by
 cases g with
 |none=>cases h;exact hy rfl σ hσ
 | some p=>
   obtain⟨s,b0⟩:=p;simp only[qs6]at h;have hs:=hσ s;unfold mS;dsimp only;have same:∀t:Bool,sg l s= .v (.bool t)->SRep ρ (sg l) (upd σ s (.v (.bool t))):=λt e r=>by
    unfold upd;split
    ·rename_i er;subst er;rw[e];exact .v _
    ·exact hσ r
   generalize hq:sg l s=q at h hs;generalize σ s=q' at hs;cases hs<;>try (cases h;done)
   ·cases h;exact hn rfl σ hσ
   ·rename_i v;cases v<;>try (cases h;done)
    rename_i t;simp only[qz5]at h;refine⟨λe=>hy (by rw[<-h,e];simp) _ (same b0 (by rw[hq,e])),λe=>hn (by rw[<-h,e];cases b0<;>rfl) _ (same (!b0) (by rw[hq,e]))⟩
def qkC(hσ:SRep ρ (sg l) σ){h h':XH}(hH:HRep ρ h.he H)(hn:ρ.length=h.n){c:COp}{dst:Option Nat}{d:D}(hx:xW c dst (sg l) h=some (d,h')){K:D->ab->Prop}
 (hK:∀(ρ':VL) (d':D) (H':ab),ρ <+:ρ'->ρ'.length=h'.n->Rep ρ' d d'->HRep ρ' h'.he H'->K d' H'):bu c dst σ H K:=by
 unfold xW at hx;split at hx
 ·rename_i d0 he' n' hw;cases hx;exact qmU hσ hH hn hw hK
 ·cases hx
def Lf(hcf:qhR S cf){h h':XH}(hH:HRep ρ h.he H)(hn:ρ.length=h.n){f:Nat}{args ds:List D}{d:D}(hx:TC h (cf f args ⟨h.he, [], [],h.n⟩)=some (d,h'))(ha:RepL ρ args ds){K:D->ab->Prop}{t:Nat}
 (hK:∀(ρ':VL) (d':D) (H':ab),ρ <+:ρ'->ρ'.length=h'.n->Rep ρ' d d'->HRep ρ' h'.he H'->K d' H'):(S f).pt t ds H K:=by
 unfold TC at hx;split at hx
 ·rename_i d0 h1 hc;cases hx;exact hcf f args _ _ h1 hc ρ ds H K t hn ha hH hK
 ·cases hx
theorem qjT(hcf:qhR S cf)(hσ:SRep ρ (sg l) σ){h h':XH}(hH:HRep ρ h.he H)(hn:ρ.length=h.n){c:COp}{dst:Option Nat}{d:D}(hx:qjU cf c dst (sg l) h=some (d,h')){K:D->ab->Prop}
 (hK:∀(ρ':VL) (d':D) (H':ab),ρ <+:ρ'->ρ'.length=h'.n->Rep ρ' d d'->HRep ρ' h'.he H'->K d' H'):aG S c dst σ H K:=by
 cases c
 case call f args=>exact Lf hcf hH hn hx (zK hσ args) hK
 case callb r f args=>exact Lf hcf hH hn hx (zK hσ args) hK
 case callv f args=>
  simp only[qjU]at hx;simp only[aG];have hf:=bh hσ f;generalize ev (sg l) f=a at hx hf;generalize ev σ f=b at hf;cases hf<;>try (cases hx;done)
  rename_i g cs ds hl hc;exact Lf hcf hH hn hx ((zK hσ args).append ⟨hl,hc⟩) hK
 all_goals (simp only[qjU]at hx;exact qkC hσ hH hn hx hK)
theorem SP(hcf:qhR S cf):∀(ls:List CI) (ρ:VL) (s s':XS) (σ:Sg) (H:ab),qtl cf ls s=some s'->Hb ρ s σ H->∀K:Sg->ab->Prop,(∀(ρ':VL) (σ':Sg) (H':ab),ρ <+:ρ'->Hb ρ' s' σ' H'->K σ' H')->DR S ls σ H K
 | [],ρ,s,s',σ,H,h,hr,K,hK=>by cases h;exact hK ρ σ H (List.prefix_refl ρ) hr
 | ci::r,ρ,s,s',σ,H,h,hr,K,hK=>by
   have h:qkJ cf ci s (qtl cf r)=some s':=h;unfold qkJ at h;split at h
   ·cases h
   ·rename_i dst g c;simp only[DR];split at h
    ·rename_i hg;split at h
     ·rename_i d h1 ho;refine qaN hg hr.2.1 (λ_ σ' hσ'=>?_) (λe=>by cases e);refine qjT hcf hσ' hr.2.2 hr.1 ho λρ1 d' H1 hp hn1 hd hH1=>?_
      exact SP hcf r ρ1 _ s' _ H1 h ⟨hn1,SRep.up hp hσ' hd,hH1⟩ K λρ' σ' H' hp'=>hK ρ' σ' H' (hp.trans hp')
     ·cases h
    ·rename_i hg;refine qaN hg hr.2.1 (λe=>by cases e) (λ_ σ' hσ'=>?_);exact SP hcf r ρ _ s' _ H h ⟨hr.1,SRep.up (List.prefix_refl ρ) hσ' .undef,hr.2.2⟩ K hK
    ·cases h
def qnB{c:COp}(h:qpV c=true){dst:Option Nat}{σ:Sg}{Hr H:ab}{K:D->ab->Prop}(hv:bu c dst σ H K):ax S c dst σ Hr H K:=by
 cases c<;>try (cases h;done)
 all_goals first
  |exact hv
  |(rename_i im x;cases im<;>first|exact hv|(cases h;done))
theorem qfu:∀(ls:List CI) {hr:HE} {Hr:ab},HRep ρ hr Hr->HRep ρ (mk ls hr) (bD ls Hr)
 | [],hr,Hr,h=>h
 | .frz _ _::_,hr,Hr,h=>h
 | .op d g c::l,hr,Hr,h=>λi r hi=>by
   have ih:=qfu l h;have hi:(qvC (c.wid d) (mk l hr)).get i=some r:=hi;unfold qvC at hi;simp only[bD];split at hi
   ·rename_i t e;split at hi
    ·cases hi
    ·rename_i ht;obtain⟨hne,hi⟩:=Tr.get_del hi;have hnw:¬Dr (CI.op d g c).wid i:=by
      show ¬Dr (c.wid d) i;rw[e];intro hw;have hw:SA i=SA t:=hw;have ht0:SA t≠0:=λe0=>ht (by rw[e0];rfl)
      unfold SA at hw ht0;split at ht0
      ·exact ht0 rfl
      ·rename_i k1;rw[if_neg k1]at hw;split at hw
       ·exact ht0 hw.symm
       ·exact hne hw
     rw[if_neg hnw];exact ih i r hi
   ·rename_i e;have hnw:¬Dr (CI.op d g c).wid i:=by
     show ¬Dr (c.wid d) i;rw[e];exactλh=>h
    rw[if_neg hnw];exact ih i r hi
theorem SO(hpf:qkv S pf):∀(ls:List CI) (ρ:VL) (hr:HE) (Hr:ab) (s s':XS) (σ:Sg) (H:ab),qtk pf ls hr s=some s'->HRep ρ hr Hr->Hb ρ s σ H->∀K:Sg->ab->Prop,(∀(ρ':VL) (σ':Sg) (H':ab),ρ <+:ρ'->Hb ρ' s' σ' H'->K σ' H')->ku S ls σ Hr H K
 | [],ρ,hr,Hr,s,s',σ,H,h,hHr,hx,K,hK=>by cases h;exact hK ρ σ H (List.prefix_refl ρ) hx
 | ci::r,ρ,hr,Hr,s,s',σ,H,h,hHr,hx,K,hK=>by
   have h:quS pf ci r hr s (qtk pf r)=some s':=h;cases ci with
   |frz a b=>exact SO hpf r ρ _ _ s s' σ H h (qfu r hHr) hx K hK
   | op dst g c=>
     simp only[quS]at h;simp only[ku];split at h
     ·rename_i hg;refine qaN hg hx.2.1 (λ_ σ' hσ'=>?_) (λe=>by cases e);have go:∀(ρ1:VL) (d d':D) (h1:XH) (H1:ab),qtk pf r hr ⟨uO s.l dst d,h1⟩=some s'->ρ <+:ρ1->ρ1.length=h1.n->Rep ρ1 d d'->HRep ρ1 h1.he H1->ku S r (fq σ' dst d') Hr H1 K:=λρ1 d d' h1 H1 h hp hn1 hd hH1=>
       SO hpf r ρ1 hr Hr _ s' _ H1 h (hHr.mono hp) ⟨hn1,SRep.up hp hσ' hd,hH1⟩ K λρ' σ' H' hp'=>hK ρ' σ' H' (hp.trans hp')
      split at h
      ·rename_i f args _h;split at h
       ·rename_i d hd;obtain⟨pc,h1,h2,h3⟩:=hpf _ _ _ hd ρ _ (zK hσ' args);simp only[ax,h1,YM];exact⟨h2,λr' hr'=>go ρ d r' s.h H h (List.prefix_refl ρ) hx.1 (h3 r' hr') hx.2.2⟩
       ·cases h
      ·split at h
       ·rename_i hal;split at h
        ·rename_i d h1 hw;exact qnB hal (qkC hσ' hx.2.2 hx.1 hw λρ1 d' H1 hp hn1 hd hH1=>go ρ1 d d' h1 H1 h hp hn1 hd hH1)
        ·cases h
       ·split at h
        ·rename_i hrd;split at h
         ·rename_i d hx1;exact(iM hrd).2 (IK hσ' hHr hx1 λd' hd=>go ρ d d' s.h H h (List.prefix_refl ρ) hx.1 hd hx.2.2)
         ·cases h
        ·cases h
     ·rename_i hg;refine qaN hg hx.2.1 (λe=>by cases e) (λ_ σ' hσ'=>?_);exact SO hpf r ρ hr Hr _ s' _ H h hHr ⟨hx.1,SRep.up (List.prefix_refl ρ) hσ' .undef,hx.2.2⟩ K hK
     ·cases h
end
def EJ:CC->CC
 | .seq a b=> .seq (EJ a) (.cut 0 (EJ b))
 | .ite c a b=> .ite c (EJ a) (EJ b)
 | .block i b=> .block i (EJ b)
 | .loop k b=> .loop k (EJ b)
 |c=>c
noncomputable def Mh(cf:CF)(pf:PF)(ih:CC->XS->Option (Ex×XS))(c:CC)(s:XS):Option (Ex×XS):=match c with
 | .skip=>some (.norm,s)
 | .reg l=>match qtl cf l s with
   |some s'=>some (.norm,s')
   |none=>none
 | .regd p t=>match qtk pf p (mk p s.h.he) s with
   | some s1=>match qtl cf t s1 with
     |some s'=>some (.norm,s')
     |none=>none
   |none=>none
 | .seq a b=>match ih a s with
   | some (.norm,s1)=>match qiV s1 with
     |some s2=>ih b s2
     |none=>none
   |r=>r
 | .ite c a b=>match ev (sg s.l) c with
   | .v (.bool true)=>ih a s
   | .v (.bool false)=>ih b s
   | _=>none
 | .block i b=>match ih b s with
   | some (.ex j,s1)=>match Nat.beq j i with
     |true=>some (.norm,s1)
     |false=>some (.ex j,s1)
   |r=>r
 | .loop key b=>match ih b s with
   | some (.norm,s1)=>match qiV s1 with
     |some s2=>ih (.loop key b) s2
     |none=>none
   |r=>r
 | .exit i=>some (.ex i,s)
 | .ret=>some (.ret,s)
 | _=>none
noncomputable def run(cf:CF)(pf:PF)(k:Nat):CC->XS->Option (Ex×XS):=Nat.rec (motive:=λ_=>CC->XS->Option (Ex×XS)) (λ_ _=>none) (λ_ ih c s=>Mh cf pf ih c s) k
section
variable {S:Nat->Spc}{cf:CF}{pf:PF}
theorem ql2(hcf:qhR S cf)(hpf:qkv S pf):∀(k:Nat) (c:CC) (s:XS) (e:Ex) (s':XS),run cf pf k c s=some (e,s')->∀(ρ:VL) (σ:Sg) (H:ab),Hb ρ s σ H->∀K:Ex->Sg->ab->Prop,
 (∀(ρ':VL) (σ':Sg) (H':ab),ρ <+:ρ'->Hb ρ' s' σ' H'->K e σ' H')->vc S (EJ c) K σ H:=by
 intro k
 induction k using Nat.strongRecOn with
 | _ k IH=>
 intro c s e s' h ρ σ H hr K hK;cases k with
 |zero=>cases h
 |succ k=>
 have h:Mh cf pf (run cf pf k) c s=some (e,s'):=h;cases c with
 |skip=>cases h;exact hK ρ σ H (List.prefix_refl ρ) hr
 | reg l=>
   simp only[Mh]at h;split at h
   ·rename_i s1 hl;cases h;exact SP hcf l ρ s s' σ H hl hr _ hK
   ·cases h
 | regd p t=>
   simp only[Mh]at h;split at h
   ·rename_i s1 hp1;split at h
    ·rename_i s2 hl;cases h;refine SO hpf p ρ _ _ s s1 σ H hp1 (qfu p hr.2.2) hr _ λρ1 σ1 H1 hp h1=>?_
     exact SP hcf t ρ1 s1 s' σ1 H1 hl h1 _ λρ' σ' H' hp'=>hK ρ' σ' H' (hp.trans hp')
    ·cases h
   ·cases h
 | seq a b=>
   simp only[Mh]at h;simp only[EJ,vc];split at h
   ·rename_i s1 h1;split at h
    ·rename_i s2 h2;refine IH k (Nat.lt_succ_self k) a s _ _ h1 ρ σ H hr _ λρ1 σ1 H1 hp hr1=>?_
     obtain⟨σ2,H2,hw,hr2⟩:=qaj h2 hr1;exact⟨σ2,H2,hw,IH k (Nat.lt_succ_self k) b s2 e s' h ρ1 σ2 H2 hr2 K λρ' σ' H' hp'=>hK ρ' σ' H' (hp.trans hp')⟩
    ·cases h
   ·rename_i hne;refine IH k (Nat.lt_succ_self k) a s e s' h ρ σ H hr _ λρ1 σ1 H1 hp hr1=>?_
    cases e with
    |norm=>exact absurd h (hne s')
    |ex i=>exact hK ρ1 σ1 H1 hp hr1
    |ret=>exact hK ρ1 σ1 H1 hp hr1
 | ite c a b=>
   simp only[Mh]at h;simp only[EJ,vc];have hc:=bh hr.2.1 c;generalize ev (sg s.l) c=q at h hc;generalize ev σ c=q' at hc;cases hc<;>try (cases h;done)
   rename_i v;cases v<;>try (cases h;done)
   rename_i t;cases t
   ·exact⟨λe=>(by cases e),λ_=>IH k (Nat.lt_succ_self k) b s e s' h ρ σ H hr K hK⟩
   ·exact⟨λ_=>IH k (Nat.lt_succ_self k) a s e s' h ρ σ H hr K hK,λe=>(by cases e)⟩
 | block i b=>
   simp only[Mh]at h;simp only[EJ,vc];split at h
   ·rename_i j s1 h1;refine IH k (Nat.lt_succ_self k) b s _ _ h1 ρ σ H hr _ λρ1 σ1 H1 hp hr1=>?_
    dsimp only;split at h
    ·rename_i e1;cases h;rw[if_pos (Nat.eq_of_beq_eq_true e1)];exact hK ρ1 σ1 H1 hp hr1
    ·rename_i e1;cases h;rw[if_neg (Nat.ne_of_beq_eq_false e1)];exact hK ρ1 σ1 H1 hp hr1
   ·rename_i hne;refine IH k (Nat.lt_succ_self k) b s e s' h ρ σ H hr _ λρ1 σ1 H1 hp hr1=>?_
    cases e with
    |norm=>exact hK ρ1 σ1 H1 hp hr1
    |ex i=>exact absurd h (hne i s')
    |ret=>exact hK ρ1 σ1 H1 hp hr1
 | loop key b=>
   simp only[EJ,vc];have en:∀j s,run cf pf j (.loop key b) s=some (e,s')->e≠ .norm:=by
    intro j
    induction j with
    |zero=>intro s h;cases h
    | succ j ih=>
      intro s h;have h:Mh cf pf (run cf pf j) (.loop key b) s=some (e,s'):=h;simp only[Mh]at h;split at h
      ·split at h
       ·exact ih _ h
       ·cases h
      ·rename_i hne;intro e1;subst e1;exact hne s' h
   refine⟨⟨Nat×Sg×ab,λx=>x.1<=k+1/\∃(s1:XS) (ρ1:VL),ρ <+:ρ1/\Hb ρ1 s1 x.2.1 x.2.2/\run cf pf x.1 (.loop key b) s1=some (e,s'),λx=>x.2.1,λx=>x.2.2,λx=>x.1⟩,⟨(k+1,σ,H),⟨qzX _,s,ρ,List.prefix_refl ρ,hr,h⟩,λ_ _ _ h=>h⟩,?_⟩;rintro⟨j,σ1,H1⟩ ⟨hj,s1,ρ1,hp1,hr1,h1⟩;dsimp only at hj h1 hr1 ⊢;cases j with
   |zero=>cases h1
   | succ j=>
     have h1:Mh cf pf (run cf pf j) (.loop key b) s1=some (e,s'):=h1;simp only[Mh]at h1;split at h1
     ·rename_i s2 h2;split at h1
      ·rename_i s3 h3;refine IH j (by omega) b s1 _ _ h2 ρ1 σ1 H1 hr1 _ λρ2 σ2 H2 hp2 hr2=>?_
       obtain⟨σ3,H3,hw,hr3⟩:=qaj h3 hr2;exact⟨(j,σ3,H3),⟨by omega,s3,ρ2,hp1.trans hp2,hr3,h1⟩,hw,Nat.lt_succ_self j⟩
      ·cases h1
     ·rename_i hne;refine IH j (by omega) b s1 e s' h1 ρ1 σ1 H1 hr1 _ λρ2 σ2 H2 hp2 hr2=>?_
      have e2:=en (k+1) s h;cases e with
      |norm=>exact absurd rfl e2
      |ex i=>exact hK ρ2 σ2 H2 (hp1.trans hp2) hr2
      |ret=>exact hK ρ2 σ2 H2 (hp1.trans hp2) hr2
 |exit i=>cases h;exact hK ρ σ H (List.prefix_refl ρ) hr
 |ret=>cases h;exact hK ρ σ H (List.prefix_refl ρ) hr
 |cut _ _=>cases h
 |keep _ _ _=>cases h
end
noncomputable def qb0(σ:Sg)(he:HE):List ak->Option (List D)
 | []=>some []
 | .tmp t::r=>(qb0 σ he r).map λl=>σ t::l
 | .cell t agg sz::r=>match cW (.load agg sz (.tmp t)) σ he with
   |some d=>(qb0 σ he r).map λl=>d::l
   |none=>none
def RQ{ρ:VL}{σe σ:Sg}{he:HE}{H:ab}(hσ:SRep ρ σe σ)(hH:HRep ρ he H):∀(rs:List ak) (ls:List D),qb0 σe he rs=some ls->∀K:List D->Prop,(∀ds,RepL ρ ls ds->K ds)->yW rs σ H K
 | [],ls,h,K,hK=>by cases h;exact hK [] .nil
 | .tmp t::r,ls,h,K,hK=>by
   simp only[qb0,qz0]at h;obtain⟨l,h,rfl⟩:=h;exact RQ hσ hH r l h _ λds hd=>hK _ (.cons (hσ t) hd)
 | .cell t agg sz::r,ls,h,K,hK=>by
   simp only[qb0]at h;split at h
   ·rename_i d hd;simp only[qz0]at h;obtain⟨l,h,rfl⟩:=h;exact IK hσ hH hd λd' hd'=>RQ hσ hH r l h _ λds hds=>hK _ (.cons hd' hds)
   ·cases h
noncomputable def num:Nat->List D->SL->SL
 | _, [],l=>l
 |i,d::r,l=>num (i+1) r (l.set i d)
def qau{ρ:VL} :∀(cs:List D) (i:Nat) (l:SL) (σ:Sg),SRep ρ (sg l) σ->(∀k c,cs[k]? =some c->Rep ρ c (σ (i+k)))->SRep ρ (sg (num i cs l)) σ
 | [],i,l,σ,h,_=>h
 | c::cs,i,l,σ,h,hc=>by
   refine qau cs (i+1) _ σ (λt=>?_) (λk c' hk=>by have:=hc (k+1) c' (by simpa using hk);rw[show i+ (k+1)=i+1+k by omega]at this;exact this);have ht:=h t;unfold sg at ht ⊢;split
   ·rename_i d1 hg;rcases Tr.get_set hg with⟨rfl,rfl⟩|⟨e,hg⟩
    ·exact hc 0 _ rfl
    ·rw[hg]at ht;exact ht
   ·exact .any _
noncomputable def qyc:D->Bool
 | .v _=>true
 | .undef=>true
 | _=>false
noncomputable def qyb:D->Bool
 | .agg cs=>la (λd=>!qyc d) cs==false
 |d=>qyc d
noncomputable def qvh:D->Bool
 | .tup cs=>la (λd=>!qyb d) cs==false
 |d=>qyb d
noncomputable def qna(l:List Nat)(he:HE):HE:=List.rec (motive:=λ_=>HE->HE) (λh=>h) (λi _ ih h=>ih (h.del i)) l he
def Ns:∀(l:List Nat) (he:HE) (i:Nat) (r:Res),(qna l he).get i=some r->he.get i=some r
 | [],he,i,r,h=>h
 |j::l,he,i,r,h=>(Tr.get_del (Ns l (he.del j) i r h)).2
noncomputable def qqy(d:D)(h:XH):XH:=Bool.rec h ⟨qna h.nw (qna h.sm h.he), [], [],h.n⟩ (qvh d)
def qqx(d:D)(h:XH):(qqy d h).n=h.n:=by
 unfold qqy;cases qvh d<;>rfl
def qaY{ρ:VL}{d:D}{h:XH}{H:ab}(hH:HRep ρ h.he H):HRep ρ (qqy d h).he H:=λi r hi=>by
 unfold qqy at hi;cases hp:qvh d with
 |false=>rw[hp]at hi;exact hH i r hi
 |true=>rw[hp]at hi;exact hH i r (Ns _ _ _ _ (Ns _ _ _ _ hi))
structure Fn where
 cc:CC
 rs:List ak
 N:Nat
noncomputable def qvK(l:List (Nat×Fn))(k:Nat):Option Fn:=List.rec (motive:=λ_=>Option Fn) none (λp _ ih=>Bool.rec ih (some p.2) (Nat.beq p.1 k)) l
def qaB:∀(l:List (Nat×Fn)) (k:Nat) (fn:Fn),qvK l k=some fn->(k,fn) ∈l
 | [],k,fn,h=>by cases h
 | p::l,k,fn,h=>by
   have h:Bool.rec (motive:=λ_=>Option Fn) (qvK l k) (some p.2) (Nat.beq p.1 k)=some fn:=h;cases e:Nat.beq p.1 k with
   | true=>
     rw[e]at h;cases h;rw[<-Nat.eq_of_beq_eq_true e];simp
   | false=>
     rw[e]at h;exact qBr _ (qaB l k fn h)
noncomputable def sC(fn:Fn)(s:XS):Option (D×XH):=match qb0 (sg s.l) s.h.he fn.rs with
 |some ds=>some (dI ds,qqy (dI ds) s.h)
 |none=>none
noncomputable def qpc(Δ:Nat->Option Fn)(pf:PF)(k:Nat)(cf:CF):CF:=λf args h=>match Δ f with
 | some fn=>match Nat.ble args.length fn.N with
   | true=>match run cf pf k fn.cc ⟨num 0 args .e,h⟩with
     |some (.ex _,_)=>none
     |some (_,s)=>sC fn s
     |none=>none
   |false=>none
 | none=>match pf f args with
   |some d=>some (d,h)
   |none=>none
noncomputable def YE(Δ:Nat->Option Fn)(pf:PF)(k:Nat):CF:=Nat.rec (motive:=λ_=>CF) (λ_ _ _=>none) (λk ih=>qpc Δ pf k ih) k
def qjS(cf:CF)(f:Nat):PT:=λd ds H K=>∃(args:List D) (h:XH) (r:D) (h':XH) (ρ:VL),cf f args h=some (r,h')/\ρ.length=h.n/\RepL ρ args ds/\HRep ρ h.he H/\
 ((∀(ρ':VL) (r':D) (H':ab),ρ <+:ρ'->ρ'.length=h'.n->Rep ρ' r r'->HRep ρ' h'.he H'->K r' H')\/(h.he= .e/\∀(ρ':VL) (r':D) (H':ab),Rep ρ' r r'->HRep ρ' h'.he H'->∃q,FrzTo H' r' q/\K q H))
def qjR(cf:CF)(f:Nat):qZ (qjS cf f):=λd ds H K K' hk ⟨args,h,r,h',ρ,h1,h2,h3,h4,h5⟩=>⟨args,h,r,h',ρ,h1,h2,h3,h4,h5.imp (λh5 ρ' r' H' a b c d=>hk _ _ (h5 ρ' r' H' a b c d)) λh5=>⟨h5.1,λρ' r' H' a b=>(h5.2 ρ' r' H' a b).imp λq hq=>⟨hq.1,hk _ _ hq.2⟩⟩⟩
def qyv(cf:CF)(f:Nat):Spc:= .gen _ (qjR cf f)
def RR{ρ:VL}{cs ds:List D}(h:RepL ρ cs ds):Rep ρ (dI cs) (dI ds):=by
 match cs,ds,h with
 | [], [],h=>exact .tup _ _ h.1 h.2
 | [c], [d],h=>exact h.2 0 c d rfl rfl
 | _::_::_,_::_::_,h=>exact .tup _ _ h.1 h.2
 | [],_::_,h=>have:=h.1;simp at this
 | _::_, [],h=>have:=h.1;simp at this
 | [_],_::_::_,h=>have:=h.1;simp at this
 | _::_::_, [_],h=>have:=h.1;simp at this
noncomputable def qgw(Δ:Nat->Option Fn)(pf:PF)(T:Nat->Spc)(k:Nat):Nat->Spc:=λf=>match Δ f with
 |some _=>qyv (YE Δ pf k) f
 |none=>T f
theorem qmV{Δ:Nat->Option Fn}{pf:PF}{T:Nat->Spc}{k:Nat}(hpf:qkv (qgw Δ pf T k) pf):qhR (qgw Δ pf T k) (YE Δ pf k):=λf args h r h' hx ρ ds H K d hn ha hH hK=>by
 have hd:(∃fn,Δ f=some fn)\/pf f args=some r/\h'=h:=by
  cases k with
  |zero=>cases hx
  | succ k=>
    have hx:qpc Δ pf k (YE Δ pf k) f args h=some (r,h'):=hx;unfold qpc at hx;split at hx
    ·rename_i fn e;exact .inl ⟨fn,e⟩
    ·split at hx
     ·rename_i d' e;cases hx;exact .inr ⟨e,rfl⟩
     ·cases hx
 rcases hd with⟨fn,e⟩|⟨e,rfl⟩
 ·show(qgw Δ pf T k f).pt d ds H K;unfold qgw;rw[e];exact⟨args,h,r,h',ρ,hx,hn,ha,hH, .inl hK⟩
 ·obtain⟨pc,e1,h1,h2⟩:=hpf f args r e ρ ds ha;rw[e1];exact⟨h1,λr' hr'=>hK ρ r' H (List.prefix_refl ρ) hn (h2 r' hr') hH⟩
theorem tri_ex{P:Program}{Δ:Nat->Option Fn}{pf:PF}{T:Nat->Spc}(hT:∀f,Tri dq P f (T f).pt)(hpf:∀k,qkv (qgw Δ pf T k) pf)(hΔ:∀f fn,Δ f=some fn->∃im,Ah P f im (EJ fn.cc) fn.rs fn.N):∀k f,Tri dq P f (qgw Δ pf T k f).pt:=by
 intro k
 induction k with
 | zero=>
   intro f;unfold qgw;split
   ·rename_i fn e;rintro O tp w vs ds H d K - - - - - ⟨args,h,r,h',ρ,hx,_⟩;cases hx
   ·exact hT f
 | succ k ih=>
   intro f;unfold qgw;split
   ·rename_i fn e;obtain⟨im,wT,enter,fun_,code,h1,h2,h3,h4,h5⟩:=hΔ f fn e;refine nE ih wT h1 h2 enter h3 h4 h5 ?_;rintro ds H d K ⟨args,h,r,h',ρ,hx,hn,ha,hH,hK⟩;have hx:qpc Δ pf k (YE Δ pf k) f args h=some (r,h'):=hx;unfold qpc at hx;rw[e]at hx;dsimp only at hx;split at hx
    ·rename_i hN;have hlen:ds.length<=fn.N:=by rw[<-ha.1];exact qzU hN
     refine⟨hlen,ds,λi=>if(h.he.get i).isSome then H i else none,id,⟨rfl,λk d d' h1 h2=>by rw[h1]at h2;cases h2;exact .same _⟩,λi r hi=>?_,λi j r s _ _ h=>h,?_⟩
     ·dsimp only at hi;split at hi
      ·exact hi
      ·cases hi
     have hH0:HRep ρ h.he (λi=>if(h.he.get i).isSome then H i else none):=λi r hi=>by
      obtain⟨r',h1,h2⟩:=hH i r hi;exact⟨r',by dsimp only;rw[hi];simpa using h1,h2⟩
     have hS0:SRep ρ (sg (num 0 args .e)) (dC ds):=qau args 0 .e _ (λt=> .any _) λk c hk=>by
      obtain⟨d,h1,h2⟩:=ha.get hk;simp only[dC,qAA,h1,qAx];exact h2
     have main:∀(e:Ex) (s:XS),run (YE Δ pf k) pf k fn.cc ⟨num 0 args .e,h⟩=some (e,s)->(e= .norm\/e= .ret)->sC fn s=some (r,h')->
      ∃Q:D->ab->Prop,vc (qgw Δ pf T k) (EJ fn.cc) (vQ fn.rs Q) (dC ds) (λi=>if(h.he.get i).isSome then H i else none)/\∀r H',Q r H'->∃(r':D) (Hf Hc:ab) (κ:Nat->Option Nat),FrzTo Hf r r'/\(∀j q,Hf j=some q->H' j=some q/\∀i,κ i≠some j)/\K r' Hc/\
       (∀i s,Hc i=some s->match κ i with|some j=>H' j=some s|none=>H i=some s/\∀k q,(if(h.he.get k).isSome then H k else none)=some q->id k≠i)/\
       (∀i j k s q,Hc i=some s->Hc j=some q->κ i=some k->κ j=some k->i=j):=by
      intro e s hrun he0 hres;unfold sC at hres;split at hres
      rotate_left
      ·cases hres
      rename_i ls hls;cases hres;refine⟨λr H'=>∃ρ',ρ <+:ρ'/\ρ'.length=s.h.n/\Rep ρ' (dI ls) r/\HRep ρ' s.h.he H',ql2 (qmV (hpf k)) (hpf k) k fn.cc _ e s hrun ρ _ _ ⟨hn,hS0,hH0⟩ _ λρ' σ' H' hp hr=>?_,?_⟩
      ·have hres:=RQ hr.2.1 hr.2.2 fn.rs ls hls (λds=>∃ρ',ρ <+:ρ'/\ρ'.length=s.h.n/\Rep ρ' (dI ls) (dI ds)/\HRep ρ' s.h.he H') λds hd=>⟨ρ',hp,hr.1,RR hd,hr.2.2⟩
       rcases he0 with rfl|rfl
       ·exact hres
       ·exact hres
      ·rintro r H' ⟨ρ',hp,hn',hr,hH'⟩;rcases hK with hK|⟨he0,hK⟩
       rotate_left
       ·obtain⟨q0,hq1,hq2⟩:=hK ρ' r H' hr (qaY hH');exact⟨q0,H',H,λ_=>none,hq1,λj q h=>⟨h,λi e=>by cases e⟩,hq2,λi q hi=>⟨hi,λk q h=>(by rw[he0]at h;simp[Tr.get_e]at h)⟩,λi j k q q' _ _ h1 h2=>(by cases h1)⟩
       refine⟨r,da,λi=>if(s.h.he.get i).isSome then H' i else none,λi=>some i, .same _,λj q h=>(by cases h),hK ρ' r _ hp (by rw[qqx];exact hn') hr (qaY λi q hi=>?_),λi q hi=>?_,λi j k q q' _ _ h1 h2=>by cases h1;cases h2;rfl⟩
       ·obtain⟨q',h1,h2⟩:=hH' i q hi;exact⟨q',by rw[hi];simpa using h1,h2⟩
       ·dsimp only at hi ⊢;split at hi
        ·exact hi
        ·cases hi
     split at hx
     ·cases hx
     ·rename_i e1 s1 hne hrun;refine main e1 s1 hrun ?_ hx;cases e1 with
      |norm=>exact .inl rfl
      |ret=>exact .inr rfl
      |ex i=>exact(hne i rfl).elim
     ·cases hx
    ·cases hx
   ·exact hT f
mutual
def pl:D->Bool
 | .v _=>true
 | .agg cs=>qhY cs
 | .tup cs=>qhY cs
 | .list _ cs=>qhY cs
 | .cptr cs _=>qhY cs
 | .clo _ cs=>qhY cs
 | .undef=>true
 | _=>false
def qhY:List D->Bool
 | []=>true
 |d::l=>pl d && qhY l
end
mutual
def qi7{ρ:VL} :∀d:D,pl d=true->Rep ρ d d
 | .v x,_=> .v x
 | .undef,_=> .undef
 | .agg cs,h=> .agg _ _ rfl (uD cs (by simpa [pl]using h)).2
 | .tup cs,h=> .tup _ _ rfl (uD cs (by simpa [pl]using h)).2
 | .list n cs,h=> .list _ _ _ rfl (uD cs (by simpa [pl]using h)).2
 | .cptr cs o,h=> .cptr _ _ _ rfl (uD cs (by simpa [pl]using h)).2
 | .clo f cs,h=> .clo _ _ _ rfl (uD cs (by simpa [pl]using h)).2
 | .any,h| .own _ _,h| .bptr _ _ _,h| .eptr _ _ _ _ _,h| .sub _ _ _ _ _,h| .tape _,h| .mp _,h| .mst _ _,h=>by simp[pl]at h
def uD{ρ:VL} :∀l:List D,qhY l=true->RepL ρ l l
 | [],_=> .nil
 | d::l,h=>by
   rw[qhY,qzT]at h;exact .cons (qi7 d h.1) (uD l h.2)
end
theorem Uu{P:Program}{f:Nat}{cf:CF}(hf:Tri dq P f (qjS cf f)){A:Type}{G:fS A}{pre:A->Prop}{Y:Type}{er:Y->D}{post:A->Y->Prop}
 (hr:∀x,pre x->qhY (G.view x)=true/\∃r h y,cf f (G.view x) ⟨.e, [], [],0⟩=some (r,h)/\(∀(ρ':VL) (r':D) (H':ab),Rep ρ' r r'->HRep ρ' h.he H'->FrzTo H' r' (er y))/\post x y):Tri dq P f (aL G pre er post).pt:=by
 intro O tp w vs ds H d K hO htl hsat hlen hargs hA;rw[nO]at hA;cases hd:G.dec ds with
 |none=>rw[hd]at hA;exact hA.elim
 | some x=>
   rw[hd]at hA;obtain⟨hp,hK⟩:=hA;obtain⟨h1,r,h,y,h2,h3,h4⟩:=hr x hp;have hle:=G.le ds x hd;refine hf O tp w vs (G.view x) H d K hO htl hsat (by rw[hlen,hle.1]) (λk v c h5 h6=>?_) ⟨G.view x,⟨.e, [], [],0⟩,r,h, [],h2,rfl,uD _ h1,λi r h=>(by cases h), .inr ⟨rfl,λρ' r' H' h5 h7=>?_⟩⟩
   ·have hlt:k<ds.length:=by rw[<-hlen];exact(qzP.1 h5).1
    have e:=qzR hlt;exact(hle.2 k _ c e h6).R (H:=da) (λi r h=>by cases h) (λ_ h=>h) (λi r b h=>by cases h) (hargs k _ _ h5 e)
   ·exact⟨er y,h3 ρ' r' H' h5 h7,hK y h4⟩
def vq:Value->Value->Bool
 | .int k a, .int k' b=>decide (k=k') && decide (a=b)
 | .string a, .string b=>decide (a=b)
 | .bool a, .bool b=>decide (a=b)
 | _,_=>false
def qoV{a b:Value}(h:vq a b=true):a=b:=by
 unfold vq at h;split at h
 ·simp only[qzT,decide_eq_true_eq]at h;rw[h.1,h.2]
 ·rw[of_decide_eq_true h]
 ·rw[of_decide_eq_true h]
 ·cases h
def qnC(f:D->D->Bool):List D->List D->Bool
 | [], []=>true
 |c::cs,d::ds=>f c d && qnC f cs ds
 | _,_=>false
def qvl(w:Nat)(d:D):Bool:=d.kn && Nat.beq d.cells.length w
noncomputable def fz:Nat->HE->D->D->Bool
 | 0=>λ_ _ _=>false
 | n+1=>λhe r t=>match t with
   | .any=>true
   | .v x=>(match r with
     | .v y=>vq y x
     | _=>false)
   | .agg ts=>(match r with
     | .agg es=>qnC (fz n he) es ts
     | _=>false)
   | .tup ts=>(match r with
     | .tup es=>qnC (fz n he) es ts
     | _=>false)
   | .list w ts=>ts.all (qvl w) && (match r with
     | .v (.slice none 0 0)=>ts.isEmpty
     | .list w' es=>Nat.beq w' w && qnC (fz n he) es ts
     | .own id x=>(match he.get id with
       |some (.row x' _ w' es)=>ZM x' x && Nat.beq w' w && qnC (fz n he) es ts
       | _=>false)
     | _=>false)
   | _=>false
theorem NV{f:D->D->Bool}{ρ:VL}{H:ab}(hf:∀c d c',f c d=true->Rep ρ c c'->FrzTo H c' d):∀(es ts es':List D),qnC f es ts=true->RepL ρ es es'->es'.length=ts.length/\∀(k:Nat) (c c':D),es'[k]? =some c->ts[k]? =some c'->FrzTo H c c'
 | [], [],es',_,hr=>by
   have h:=hr.1;cases es' with
   |nil=>exact⟨rfl,λk c c' h=>by simp at h⟩
   |cons a l=>simp at h
 | c::cs,d::ds,es',h,hr=>by
   have hl:=hr.1;cases es' with
   |nil=>simp at hl
   | cons a l=>
     simp only[qnC,qzT]at h;have h0:=hr.2 0 c a rfl rfl;have ih:=NV hf cs ds l h.2 ⟨by simpa using hl,λk x y h1 h2=>hr.2 (k+1) x y (by simpa using h1) (by simpa using h2)⟩;refine⟨by simp[ih.1],λk x y h1 h2=>?_⟩;cases k with
     |zero=>simp at h1 h2;subst h1;subst h2;exact hf _ _ _ h.1 h0
     |succ k=>exact ih.2 k x y (by simpa using h1) (by simpa using h2)
 | [],_::_,_,h,_=>by cases h
 | _::_, [],_,h,_=>by cases h
theorem qk5{ρ:VL}{he:HE}{H:ab}(hH:HRep ρ he H):∀(n:Nat) (r t r':D),fz n he r t=true->Rep ρ r r'->FrzTo H r' t
 | 0,r,t,r',h,hr=>by cases h
 | n+1,r,t,r',h,hr=>by
   have ih:∀c d c',fz n he c d=true->Rep ρ c c'->FrzTo H c' d:=λc d c'=>qk5 hH n c d c'
   have okl:∀{w:Nat} {ts:List D},ts.all (qvl w)=true->∀d∈ts,d.kn=true/\d.cells.length=w:=λh d hd=>by
    have:=qzY.1 h d hd;simp only[qvl,qzT]at this;exact⟨this.1,Nat.eq_of_beq_eq_true this.2⟩
   cases t with
   |any=>exact .any _
   | v x=>
     simp only[fz]at h;split at h
     ·rename_i y;cases hr;rw[qoV h];exact .same _
     ·cases h
   | agg ts=>
     simp only[fz]at h;split at h
     ·rename_i es;cases hr with
      | agg _ ds hl hh=>
        have:=NV ih es ts ds h ⟨hl,hh⟩;exact .agg this.1 this.2
     ·cases h
   | tup ts=>
     simp only[fz]at h;split at h
     ·rename_i es;cases hr with
      | tup _ ds hl hh=>
        have:=NV ih es ts ds h ⟨hl,hh⟩;exact .tup this.1 this.2
     ·cases h
   | list w ts=>
     simp only[fz,qzT]at h;obtain⟨h0,h⟩:=h;split at h
     ·cases hr;have:ts=[]:=by simpa using h
      subst this;exact .nil _
     ·rename_i w' es;simp only[qzT]at h;obtain⟨h1,h⟩:=h;have e:=Nat.eq_of_beq_eq_true h1;subst e;cases hr with
      | list _ _ ds hl hh=>
        have:=NV ih es ts ds h ⟨hl,hh⟩;exact .list this.1 (okl h0) this.2
     ·rename_i id x;split at h
      ·rename_i x' el w' es hg;simp only[qzT]at h;obtain⟨⟨h1,h2⟩,h⟩:=h;have e:=Nat.eq_of_beq_eq_true h2;subst e;cases hr with
       | own _ m y b hm=>
         obtain⟨k,rfl⟩:=HY hH hg;obtain⟨ds,h3,h4⟩:=Cz (c:=0) (y:= .bool true) hH hg h1 hm;have:=NV ih es ts ds h h4;exact .row h3 this.1 (okl h0) this.2
      ·cases h
     ·cases h
   | _=>cases h
def Uv{P:Program}{f:Nat}{cf:CF}(hf:Tri dq P f (qjS cf f)){A:Type}{G:fS A}{pre:A->Prop}{Y:Type}{er:Y->D}{post:A->Y->Prop}
 (hr:∀x,pre x->qhY (G.view x)=true/\∃r h y,cf f (G.view x) ⟨.e, [], [],0⟩=some (r,h)/\fz 60 h.he r (er y)=true/\post x y):Tri dq P f (aL G pre er post).pt:=
 Uu hf λx hx=>(hr x hx).imp_right λ⟨r,h,y,h1,h2,h3⟩=>⟨r,h,y,h1,λρ' r' H' hr hH=>qk5 hH 60 _ _ _ h2 hr,h3⟩
end X
open Go.Proofs X
def qmw:List Nat:=(List.range 200).map (· +100000)
abbrev gx(f:Func)(x:X.Fn)(_:(⟨G.rw_ Tryz.prog f qmw,(f.results.toList.mapM (eV { Tryz.prog with cutTypes:= #[] })).getD [],f.ntmps⟩:X.Fn)=x:=by conv=>lhs;reduce):X.Fn:=x
def qlc(p:Nat×X.Fn):Prop:=∃im,Ah Tryz.prog p.1 im (EJ p.2.cc) p.2.rs p.2.N
def qy3 {f N : Nat} {cc : CC} {rs : List ak} (h : ((Tryz.prog.funcs[f]?).bind fun g => if g.name == "runtime.NumGoroutine" then none else g.body.bind fun c => (aF Tryz.prog qmw g.ntmps c).bind fun cc => (g.results.toList.mapM (eV Tryz.prog)).bind fun rs => some (g.ntmps, cc, rs)) = some (N, bG (EJ cc), rs) := by kernel_rfl) : qlc (f, ⟨cc, rs, N⟩) := ⟨qmw, qk6 mixed h⟩
def quB:∀p∈ ([]:List (Nat×X.Fn)),qlc p:=λp h=>by cases h
def qoP{p:Nat×X.Fn}{l:List (Nat×X.Fn)}(h:qlc p)(hl:∀p∈l,qlc p):∀q∈p::l,qlc q:=λq hq=>by
 rcases qz4.1 hq with rfl|hq
 ·exact h
 ·exact hl q hq
def qvi:PF:=λ_ _=>none
noncomputable def ΔL(dl:List (Nat×X.Fn))(f:Nat):Option X.Fn:=qvK dl f
def qlo{dl:List (Nat×X.Fn)}(h:∀p∈dl,qlc p)(k f:Nat):TQ dq f (qgw (ΔL dl) qvi (Jh []) k f):=
 X.tri_ex (ag ae) (λk f args r h=>by cases h) (λf fn e=>h _ (qaB _ _ _ e)) k f
def qoO{dl:List (Nat×X.Fn)}(h:∀p∈dl,qlc p){f:Nat}{fn:X.Fn}(e:ΔL dl f=some fn)(k:Nat):Tri dq Tryz.prog f (qjS (YE (ΔL dl) qvi k) f):=by
 have:=qlo (dq:=dq) h k f;unfold qgw at this;rw[e]at this;exact this
end Go.Gv
namespace Go.Gv
open Go.Proofs
def E4:X.Fn:=gx Tryz.f32 _
def TB:X.Fn:=gx Tryz.f74 _
def E1:X.Fn:=gx Tryz.f75 _
def EY:X.Fn:=gx Tryz.f76 _
def EX:X.Fn:=gx Tryz.f77 _
def Dz:X.Fn:=gx Tryz.f78 _
def CR:X.Fn:=gx Tryz.f80 _
def DA:X.Fn:=gx Tryz.f81 _
def Hk:X.Fn:=gx Tryz.f82 _
def EV:X.Fn:=gx Tryz.f84 _
def ET:X.Fn:=gx Tryz.f146 _
def DG:X.Fn:=gx Tryz.f147 _
def CT:X.Fn:=gx Tryz.f148 _
def EU:X.Fn:=gx Tryz.f210 _
def AS:X.Fn:=gx Tryz.f211 _
def DF:X.Fn:=gx Tryz.f212 _
def DE:X.Fn:=gx Tryz.f266 _
def AR:X.Fn:=gx Tryz.f267 _
def DD:X.Fn:=gx Tryz.f268 _
def DB:X.Fn:=gx Tryz.f269 _
def DI:X.Fn:=gx Tryz.f271 _
def DH:X.Fn:=gx Tryz.f272 _
def Hj:X.Fn:=gx Tryz.f295 _
def AQ:X.Fn:=gx Tryz.f296 _
def EZ:X.Fn:=gx Tryz.f310 _
def EW:X.Fn:=gx Tryz.f320 _
def Le:X.Fn:=gx Tryz.f79 _
def ES:X.Fn:=gx Tryz.f83 _
def Hl:X.Fn:=gx Tryz.f270 _
def JL:X.Fn:=gx Tryz.f143 _
def Ld:X.Fn:=gx Tryz.f144 _
def QE:X.Fn:=gx Tryz.f145 _
end Go.Gv
