/- A part of the framework and of the walks: V37 V38 V39 V40. -/
import Derived.Test.YtaiffcbkmgfklaaGreatDoorGs46
set_option linter.unusedSimpArgs false
set_option linter.unusedVariables false

namespace Go.Gv
theorem OE {d:UInt8} (h:pW ⟨d.toNat⟩=true):b8 Cy d=false:=by
 unfold b8 Cy
 unfold pW yf at h
 simp only[decide_eq_true_eq] at h
 simp only[decide_eq_false_iff_not]
 omega
theorem BS {d c:UInt8} (h:pW ⟨d.toNat⟩=true) (hc:pW ⟨c.toNat⟩=false):d≠c:=by
 rintro rfl
 rw[hc] at h
 cases h
theorem rK {n:B} (h:bV n=true): ∃d w,n.data.toList=d::w∧pW ⟨d.toNat⟩=true:=by
 unfold bV at h
 split at h
 ·cases h
 ·rename_i d w e
  rw[Bool.and_eq_true] at h
  exact⟨d,w,e,h.1⟩
theorem Yl {d:UInt8} (hd:d≠58) (q:List UInt8):Lx (58::d::q) 5 ⟨#[58]⟩ (d::q):=by
 have hd2: ((58:UInt8)==d)=false:=by simpa using fun e=> hd e.symm
 unfold Lx oW
 rw[List.dropWhile_cons_of_neg (by decide)]
 simp only
 rw[if_neg (by decide),if_neg (by decide),if_neg (by decide)]
 have:sgnL.find? (fun x=> x.isPrefixOf (58::d::q))=some [58]:=by
  simp[sgnL,signsL,List.find?,List.isPrefixOf,hd2]
 rw[this]
 rfl
theorem qbx {d:UInt8} (hd:d≠47) (q:List UInt8):Lx (60::d::q) 5 ⟨#[60]⟩ (d::q):=by
 have hd2: ((47:UInt8)==d)=false:=by simpa using fun e=> hd e.symm
 unfold Lx oW
 rw[List.dropWhile_cons_of_neg (by decide)]
 simp only
 rw[if_neg (by decide),if_neg (by decide),if_neg (by decide)]
 have:sgnL.find? (fun x=> x.isPrefixOf (60::d::q))=some [60]:=by
  simp[sgnL,signsL,List.find?,List.isPrefixOf,hd2]
 rw[this]
 rfl
inductive BG:List UInt8→Prop
 | lab (n:B) (d:UInt8) (q:List UInt8):bV n=true→d≠58→BG (n.data.toList++58::d::q)
 | str (v q:List UInt8): (34:UInt8) ∉v→HS q→BG (34:: (v++34::q))
 | brk (q:List UInt8):BG (91::q)
 | par (q:List UInt8):BG (40::q)
 | anc (n:B) (q:List UInt8):bV n=true→BG (60:: (n.data.toList++q))
 | anc2 (q:List UInt8):BG (60::47::q)
theorem Ha {l:List UInt8} (h:BG l) {c:UInt8} {x:B} (hx:x.data.toList.head?=some c) (h1:pW ⟨c.toNat⟩=false) (h2:c≠34) (h3:c≠91) (h4:c≠40) (h5:c≠60):iA l x:=by
 have ne: ∀d:UInt8,d≠c→x.data.toList.head?≠some d:=fun d h e=> by rw[hx] at e;cases e;exact h rfl
 cases h with
 | lab n d q hn hd=>
   obtain⟨a,w,e,ha⟩:=rK hn
   rw[e]
   exact bI (OE ha) (ne a (BS ha h1))
 | str v q=> exact bI (by decide) (ne _ (Ne.symm h2))
 | brk q=> exact bI (by decide) (ne _ (Ne.symm h3))
 | par q=> exact bI (by decide) (ne _ (Ne.symm h4))
 | anc n q=> exact bI (by decide) (ne _ (Ne.symm h5))
 | anc2 q=> exact bI (by decide) (ne _ (Ne.symm h5))
theorem Yn {l:List UInt8} (h:BG l):FI (32::l):=
 ⟨⟨yd (by decide),lX (Ha h rfl (by decide) (by decide) (by decide) (by decide) (by decide))⟩,lX (Ha h rfl (by decide) (by decide) (by decide) (by decide) (by decide)),lX (Ha h rfl (by decide) (by decide) (by decide) (by decide) (by decide)),lX (Ha h rfl (by decide) (by decide) (by decide) (by decide) (by decide)),lX (Ha h rfl (by decide) (by decide) (by decide) (by decide) (by decide))⟩
theorem Sd {l:List UInt8} (h:BG l) {s:Rdr} (hs:At s l) (i:Bool):jI s i=some true:=by
 cases h with
 | lab n d q hn hd=>
   have e1:Lx (n.data.toList++58::d::q) 2 n (58::d::q):=fE hn (fy (by decide))
   have e2:=Yl hd q
   have e:=Eb (s:=s.txt) (i:=s.fin.toNat) (by have:=hs.rng;omega)
   rw[hs.rest,e1,e2] at e
   unfold jI IM
   rw[fm hs e1,if_neg (by decide),if_pos rfl,if_pos hs.rng,Option.map_some]
   have t1: (ge s.txt s.fin.toNat).1.kind=5:=e.1
   have t2: (ge s.txt s.fin.toNat).1.text=⟨#[58]⟩:=F1 e.2.1
   rw[t1,t2]
   simp
 | str v q hv hq=>
   unfold jI
   rw[fm hs (OC hv hq),if_pos rfl]
 | brk q=>
   have e1:Lx (91::q) 5 ⟨#[91]⟩ q:=rfl
   unfold jI
   rw[fm hs e1,if_neg (by decide),if_neg (by decide),ci hs e1,ci hs e1,ci hs e1,ci hs e1]
   rfl
 | par q=>
   have e1:Lx (40::q) 5 ⟨#[40]⟩ q:=rfl
   unfold jI
   rw[fm hs e1,if_neg (by decide),if_neg (by decide),ci hs e1,ci hs e1,ci hs e1,ci hs e1]
   rfl
 | anc n q hn=>
   obtain⟨a,w,e,ha⟩:=rK hn
   rw[e] at hs
   have e1:Lx (60::a:: (w++q)) 5 ⟨#[60]⟩ (a:: (w++q)):=qbx (BS ha (by decide)) _
   unfold jI
   rw[fm hs e1,if_neg (by decide),if_neg (by decide),ci hs e1,ci hs e1,ci hs e1,ci hs e1]
   rfl
 | anc2 q=>
   have e1:Lx (60::47::q) 5 ⟨#[60,47]⟩ q:=rfl
   unfold jI
   rw[fm hs e1,if_neg (by decide),if_neg (by decide),ci hs e1,ci hs e1,ci hs e1,ci hs e1]
   rfl
section
variable {A:Rdr→Bool→Out (Rdr×Pat)} {O:Rdr→Out (Rdr×Cond)}
def NB (i:Bool) (r:List UInt8):Prop:= ∀s,At s r→jI s i=some false
theorem zk {s:Rdr} {l r:List UInt8} {t:B} {most a n:Int} (hl:Lx l 3 t r) (hd:yo t=true) (hm:most≤1000000) (hn:DI most t=n) (hle:n≤most) (hs:At s l):GO (numberE s most a) r n:=by
 unfold numberE
 refine(cI hs hl).bind fun s1 h1=> ?_
 simp only
 rw[if_pos ⟨hd,hm⟩,hn,if_neg (by omega)]
 exact .ok h1
theorem UD {mn mx:Int} {u:B} (hu:A4 mn mx=some u) {r:List UInt8} : (RI (u.data.toList++r))∧ ∀s,At s (u.data.toList++r)→GO (Dt s) r (some (mn,mx)):=by
 unfold A4 at hu
 split at hu
 ·rename_i e
  obtain⟨rfl,rfl⟩:=e
  obtain rfl:=Option.some.inj hu
  refine⟨LZ (by decide) (by decide) (by decide),fun s hs=> ?_⟩
  unfold Dt
  have e0:Lx (63::r) 5 ⟨#[63]⟩ r:=rfl
  have hs:At s (63::r):=hs
  refine(ct hs e0).bind fun s9 h9=> ?_
  simp only
  rw[if_pos trivial]
  exact .ok h9
 split at hu
 ·rename_i e
  obtain⟨rfl,rfl⟩:=e
  obtain rfl:=Option.some.inj hu
  refine⟨LZ (by decide) (by decide) (by decide),fun s hs=> ?_⟩
  unfold Dt
  have e0:Lx (42::r) 5 ⟨#[42]⟩ r:=rfl
  have hs:At s (42::r):=hs
  refine(cu hs e0 _ (.inr (by decide))).bind fun s1 h1=> ?_
  simp only
  rw[if_neg (by decide)]
  refine(ct h1 e0).bind fun s9 h9=> ?_
  simp only
  rw[if_pos trivial]
  exact .ok h9
 split at hu
 ·rename_i e
  obtain⟨rfl,rfl⟩:=e
  obtain rfl:=Option.some.inj hu
  refine⟨LZ (by decide) (by decide) (by decide),fun s hs=> ?_⟩
  unfold Dt
  have e0:Lx (43::r) 5 ⟨#[43]⟩ r:=rfl
  have hs:At s (43::r):=hs
  refine(cu hs e0 _ (.inr (by decide))).bind fun s1 h1=> ?_
  simp only
  rw[if_neg (by decide)]
  refine(cu h1 e0 _ (.inr (by decide))).bind fun s2 h2=> ?_
  simp only
  rw[if_neg (by decide)]
  refine(ct h2 e0).bind fun s9 h9=> ?_
  simp only
  rw[if_pos trivial]
  exact .ok h9
 split at hu
 ·rename_i e
  obtain⟨rfl,rfl⟩:=e
  obtain rfl:=Option.some.inj hu
  refine⟨LZ (by decide) (by decide) (by decide),fun s hs=> ?_⟩
  unfold Dt
  have hs:At s (123::50::125::r):=hs
  have e0:Lx (123::50::125::r) 5 ⟨#[123]⟩ (50::125::r):=rfl
  refine(cu hs e0 _ (.inr (by decide))).bind fun s1 h1=> ?_
  simp only
  rw[if_neg (by decide)]
  refine(cu h1 e0 _ (.inr (by decide))).bind fun s2 h2=> ?_
  simp only
  rw[if_neg (by decide)]
  refine(cu h2 e0 _ (.inr (by decide))).bind fun s3 h3=> ?_
  simp only
  rw[if_neg (by decide)]
  refine(ct h3 e0).bind fun s4 h4=> ?_
  simp only
  rw[if_pos trivial]
  unfold Cr
  simp only[cm]
  refine(zk (show Lx (50::125::r) 3 ⟨#[50]⟩ (125::r) from rfl) (by decide) (by decide) (show DI 16 ⟨#[50]⟩=2 by decide) (by decide) h4).bind fun s5 h5=> ?_
  have e1:Lx (125::r) 5 ⟨#[125]⟩ r:=rfl
  refine(cu h5 e1 _ (.inr (by decide))).bind fun s6 h6=> ?_
  simp only
  rw[if_neg (by decide)]
  exact(db h6 e1).bind fun s7 h7=> .ok h7
 split at hu
 ·rename_i e
  obtain⟨rfl,rfl⟩:=e
  obtain rfl:=Option.some.inj hu
  refine⟨LZ (by decide) (by decide) (by decide),fun s hs=> ?_⟩
  unfold Dt
  have hs:At s (123::48::44::50::125::r):=hs
  have e0:Lx (123::48::44::50::125::r) 5 ⟨#[123]⟩ (48::44::50::125::r):=rfl
  refine(cu hs e0 _ (.inr (by decide))).bind fun s1 h1=> ?_
  simp only
  rw[if_neg (by decide)]
  refine(cu h1 e0 _ (.inr (by decide))).bind fun s2 h2=> ?_
  simp only
  rw[if_neg (by decide)]
  refine(cu h2 e0 _ (.inr (by decide))).bind fun s3 h3=> ?_
  simp only
  rw[if_neg (by decide)]
  refine(ct h3 e0).bind fun s4 h4=> ?_
  simp only
  rw[if_pos trivial]
  unfold Cr
  simp only[cm]
  refine(zk (show Lx (48::44::50::125::r) 3 ⟨#[48]⟩ (44::50::125::r) from rfl) (by decide) (by decide) (show DI 16 ⟨#[48]⟩=0 by decide) (by decide) h4).bind fun s5 h5=> ?_
  have e2:Lx (50::125::r) 3 ⟨#[50]⟩ (125::r):=rfl
  have e1:Lx (125::r) 5 ⟨#[125]⟩ r:=rfl
  refine(ct h5 (show Lx _ 5 ⟨#[44]⟩ (50::125::r) from rfl)).bind fun s6 h6=> ?_
  simp only
  rw[if_pos trivial,ci h6 e2,if_neg (by decide)]
  refine(zk e2 (by decide) (by decide) (show DI 16 ⟨#[50]⟩=2 by decide) (by decide) h6).bind fun s7 h7=> ?_
  simp only
  rw[if_neg (by decide)]
  exact(db h7 e1).bind fun s8 h8=> .ok h8
 split at hu
 ·rename_i e
  obtain⟨rfl,rfl⟩:=e
  obtain rfl:=Option.some.inj hu
  refine⟨LZ (by decide) (by decide) (by decide),fun s hs=> ?_⟩
  unfold Dt
  have hs:At s (123::49::44::51::125::r):=hs
  have e0:Lx (123::49::44::51::125::r) 5 ⟨#[123]⟩ (49::44::51::125::r):=rfl
  refine(cu hs e0 _ (.inr (by decide))).bind fun s1 h1=> ?_
  simp only
  rw[if_neg (by decide)]
  refine(cu h1 e0 _ (.inr (by decide))).bind fun s2 h2=> ?_
  simp only
  rw[if_neg (by decide)]
  refine(cu h2 e0 _ (.inr (by decide))).bind fun s3 h3=> ?_
  simp only
  rw[if_neg (by decide)]
  refine(ct h3 e0).bind fun s4 h4=> ?_
  simp only
  rw[if_pos trivial]
  unfold Cr
  simp only[cm]
  refine(zk (show Lx (49::44::51::125::r) 3 ⟨#[49]⟩ (44::51::125::r) from rfl) (by decide) (by decide) (show DI 16 ⟨#[49]⟩=1 by decide) (by decide) h4).bind fun s5 h5=> ?_
  have e2:Lx (51::125::r) 3 ⟨#[51]⟩ (125::r):=rfl
  have e1:Lx (125::r) 5 ⟨#[125]⟩ r:=rfl
  refine(ct h5 (show Lx _ 5 ⟨#[44]⟩ (51::125::r) from rfl)).bind fun s6 h6=> ?_
  simp only
  rw[if_pos trivial,ci h6 e2,if_neg (by decide)]
  refine(zk e2 (by decide) (by decide) (show DI 16 ⟨#[51]⟩=3 by decide) (by decide) h6).bind fun s7 h7=> ?_
  simp only
  rw[if_neg (by decide)]
  exact(db h7 e1).bind fun s8 h8=> .ok h8
 split at hu
 ·rename_i e
  obtain⟨rfl,rfl⟩:=e
  obtain rfl:=Option.some.inj hu
  refine⟨LZ (by decide) (by decide) (by decide),fun s hs=> ?_⟩
  unfold Dt
  have hs:At s (123::48::125::r):=hs
  have e0:Lx (123::48::125::r) 5 ⟨#[123]⟩ (48::125::r):=rfl
  refine(cu hs e0 _ (.inr (by decide))).bind fun s1 h1=> ?_
  simp only
  rw[if_neg (by decide)]
  refine(cu h1 e0 _ (.inr (by decide))).bind fun s2 h2=> ?_
  simp only
  rw[if_neg (by decide)]
  refine(cu h2 e0 _ (.inr (by decide))).bind fun s3 h3=> ?_
  simp only
  rw[if_neg (by decide)]
  refine(ct h3 e0).bind fun s4 h4=> ?_
  simp only
  rw[if_pos trivial]
  unfold Cr
  simp only[cm]
  refine(zk (show Lx (48::125::r) 3 ⟨#[48]⟩ (125::r) from rfl) (by decide) (by decide) (show DI 16 ⟨#[48]⟩=0 by decide) (by decide) h4).bind fun s5 h5=> ?_
  have e1:Lx (125::r) 5 ⟨#[125]⟩ r:=rfl
  refine(cu h5 e1 _ (.inr (by decide))).bind fun s6 h6=> ?_
  simp only
  rw[if_neg (by decide)]
  exact(db h6 e1).bind fun s7 h7=> .ok h7
 cases hu
theorem Xk {r:List UInt8} (h:FI r) {s:Rdr} (hs:At s r):GO (Dt s) r none:=by
 unfold Dt
 refine(hM hs h.s1).bind fun s1 h1=> ?_
 simp only
 rw[if_neg (by decide)]
 refine(hM h1 h.s2).bind fun s2 h2=> ?_
 simp only
 rw[if_neg (by decide)]
 refine(hM h2 h.s3).bind fun s3 h3=> ?_
 simp only
 rw[if_neg (by decide)]
 refine(hM h3 h.s4).bind fun s4 h4=> ?_
 simp only
 rw[if_neg (by decide)]
 exact .ok h4
def RL (A:Rdr→Bool→Out (Rdr×Pat)) (O:Rdr→Out (Rdr×Cond)) (n:Nat) (s:Rdr) (r:List UInt8) (p:Pat):Prop:= ∃s1 j,j≤n∧At s1 r∧repE A O s=oL (500 -j) s1 p
theorem PG {n:Nat} {s:Rdr} {r:List UInt8} {p:Pat} (h:RL A O n s r p) (hn:n≤400) (hr:FI r):GO (repE A O s) r p:=by
 obtain⟨s1,j,hj,h1,e⟩:=h
 rw[e,show 500 -j=(499 -j) +1 by omega,oL]
 exact(Xk hr h1).bind fun s2 h2=> .ok h2
theorem PZ {s:Rdr} {r:List UInt8} {p:Pat} {i:Bool} (h:GO (repE A O s) r p) (hb:NB i r):GO (seqE A O s i) r p:=by
 unfold seqE
 refine h.bind fun s1 h1=> ?_
 show GO ((lC A O i (499+1) s1 [p]).map _) r p
 rw[lC,hb s1 h1,cm]
 exact GO.bind (l:=r) (y:= [p]) (.ok h1) fun s2 h2=> .ok h2
theorem Xl {s:Rdr} {r l2:List UInt8} {a b:Pat} {i:Bool} (h:GO (repE A O s) (32::l2) a) (hg:BG l2) (h2: ∀s',At s' l2→GO (repE A O s') r b) (hb:NB i r):GO (seqE A O s i) r (vT 4 [a,b]):=by
 unfold seqE
 refine h.bind fun s1 h1=> ?_
 show GO ((lC A O i (498+1+1) s1 [a]).map _) r _
 have h1:=CU h1
 rw[lC,Sd hg h1,cm]
 refine GO.bind (l:=r) (y:= [a,b]) ?_ fun s2 h2=> .ok h2
 show GO ((repE A O s1).bind _) r _
 refine(h2 s1 h1).bind fun s2 h2=> ?_
 rw[lC,hb s2 h2]
 exact .ok h2
theorem P3 {s:Rdr} {r:List UInt8} {p:Pat} {i:Bool} (h:GO (seqE A O s i) r p) (hn:iA r ⟨#[124]⟩):GO (altE A O s i) r p:=by
 unfold altE
 refine h.bind fun s1 h1=> ?_
 show GO ((lP A O i (499+1) s1 [p]).map _) r p
 rw[lP,cm]
 refine GO.bind (l:=r) (y:= [p]) ?_ fun s2 h2=> .ok h2
 exact(hM h1 hn).bind fun s2 h2=> .ok h2
theorem Xo {s:Rdr} {r l2:List UInt8} {a b:Pat} {i:Bool} (h:GO (seqE A O s i) (32::124::32::l2) a) (h2: ∀s',At s' l2→GO (seqE A O s' i) r b) (hn:iA r ⟨#[124]⟩):GO (altE A O s i) r (vT 5 [a,b]):=by
 unfold altE
 refine h.bind fun s1 h1=> ?_
 show GO ((lP A O i (498+1+1) s1 [a]).map _) r _
 rw[lP,cm]
 refine GO.bind (l:=r) (y:= [a,b]) ?_ fun s2 h2=> .ok h2
 refine(ct h1 (show Lx _ 5 ⟨#[124]⟩ (32::l2) from rfl)).bind fun s2 h2'=> ?_
 simp only
 rw[if_pos trivial]
 refine(h2 s2 (CU h2')).bind fun s3 h3=> ?_
 rw[lP]
 exact(hM h3 hn).bind fun s4 h4=> .ok h4
end
def uM (p:Pat):Bool:=decide (p.op=5) || decide (p.op=4)
structure PR (n:Nat) (p:Pat) (t:B):Prop where
 beg: ∀r,RI r→BG ((eX (uM p) t).data.toList++r)
 unit: ∀m,n < m→ ∀r,RI r→ ∀s,At s ((eX (uM p) t).data.toList++r)→RL (iy m) (orE (dm (m+1))) n s r p
 conj:p.op≠5→ ∀m,n < m→ ∀r i,FI r→NB i r→ ∀s,At s (t.data.toList++r)→GO (seqE (iy m) (orE (dm (m+1))) s i) r p
 disj: ∀m,n < m→ ∀r i,FI r→NB i r→iA r ⟨#[124]⟩→ ∀s,At s (t.data.toList++r)→GO (altE (iy m) (orE (dm (m+1))) s i) r p
end Go.Gv

namespace Go.Gv
theorem Ad {n:Nat} {p:Pat} {t:B} (hn:n≤100) (hp:uM p=false) (beg: ∀r,RI r→BG (t.data.toList++r)) (unit: ∀m,n < m→ ∀r,RI r→ ∀s,At s (t.data.toList++r)→RL (iy m) (orE (dm (m+1))) n s r p):PR n p t:=by
 have e: (eX (uM p) t).data.toList=t.data.toList:=by rw[hp,gQ];rfl
 have conj: ∀m,n < m→ ∀r i,FI r→NB i r→ ∀s,At s (t.data.toList++r)→GO (seqE (iy m) (orE (dm (m+1))) s i) r p:=fun m hm r i hr hb s hs=> PZ (PG (unit m hm r hr.ri s hs) (by omega) hr) hb
 exact⟨fun r hr=> by rw[e];exact beg r hr,fun m hm r hr s hs=> unit m hm r hr s (by rw[e] at hs;exact hs),fun _=> conj,fun m hm r i hr hb hn s hs=> P3 (conj m hm r i hr hb s hs) hn⟩
theorem zZ {A:Rdr→Bool→Out (Rdr×Pat)} {O:Rdr→Out (Rdr×Cond)} {n:Nat} {s:Rdr} {r:List UInt8} {p:Pat} (h:GO (itemE A O s) r p):RL A O n s r p:=by
 obtain⟨s1,e,h1⟩:=h
 refine⟨s1,0,Nat.zero_le _,h1,?_⟩
 unfold repE
 rw[e]
 rfl
theorem YZ {d:UInt8} {r:List UInt8} (h:d=62∨d=41):RI (d::r):=by rcases h with rfl | rfl <;> exact LZ (by decide) (by decide) (by decide)
section
variable {A:Rdr→Bool→Out (Rdr×Pat)} {O:Rdr→Out (Rdr×Cond)}
theorem I8 {n:B} (hn:bV n=true) (op:Int) {r:List UInt8} {s:Rdr} (hs:At s (n.data.toList++62::r)):GO (AL s op) r ⟨op,Cond0,E0,n,0,0, []⟩:=by
 unfold AL
 refine(cI hs (fE hn (fy (by decide)))).bind fun s1 h1=> ?_
 rw[cm]
 exact(db h1 (show Lx (62::r) 5 ⟨#[62]⟩ r from rfl)).bind fun s2 h2=> .ok h2
theorem Um {n:B} (hn:bV n=true) {r:List UInt8} {s:Rdr} (hs:At s (60:: (n.data.toList++62::r))):GO (itemE A O s) r ⟨2,Cond0,E0,n,0,0, []⟩:=by
 obtain⟨a,w,e,ha⟩:=rK hn
 have e1:Lx (60:: (n.data.toList++62::r)) 5 ⟨#[60]⟩ (n.data.toList++62::r):=by rw[e];exact qbx (BS ha (by decide)) _
 unfold itemE
 refine(ct hs e1).bind fun s1 h1=> ?_
 simp only
 rw[if_pos trivial]
 exact I8 hn 2 h1
theorem Ru {n:B} (hn:bV n=true) {r:List UInt8} {s:Rdr} (hs:At s (60::47:: (n.data.toList++62::r))):GO (itemE A O s) r ⟨3,Cond0,E0,n,0,0, []⟩:=by
 have e1:Lx (60::47:: (n.data.toList++62::r)) 5 ⟨#[60,47]⟩ (n.data.toList++62::r):=rfl
 unfold itemE
 refine(cu hs e1 _ (.inr (by decide))).bind fun s1 h1=> ?_
 simp only
 rw[if_neg (by decide)]
 refine(ct h1 e1).bind fun s2 h2=> ?_
 simp only
 rw[if_pos trivial]
 exact I8 hn 3 h2
theorem Mu {l r:List UInt8} {p:Pat} {s:Rdr} {d:UInt8} {q:List UInt8} (hl:l=d::q) (h0:b8 Cy d=false) (h1:d≠60) (h2:d≠40) (hs:At s l)
 (h: ∀s',At s' l→GO (if s'.kind=2 then(fX s' 2).bind fun n=> (eR n.1 [⟨#[58]⟩]).bind fun u=> tokenE O u n.2 else tokenE O s' E0) r p):GO (itemE A O s) r p:=by
 subst hl
 unfold itemE
 refine(hM hs (bI h0 fun h=> h1 (by cases h;rfl))).bind fun s1 g1=> ?_
 simp only
 rw[if_neg (by decide)]
 refine(hM g1 (bI h0 fun h=> h1 (by cases h;rfl))).bind fun s2 g2=> ?_
 simp only
 rw[if_neg (by decide)]
 refine(hM g2 (bI h0 fun h=> h2 (by cases h;rfl))).bind fun s3 g3=> ?_
 simp only
 rw[if_neg (by decide)]
 exact h s3 g3
end
theorem Ul {m:Nat} {p:Pat} {t:B} {r:List UInt8} {s:Rdr} (h: ∀s',At s' (t.data.toList++41::r)→GO (iy m s' true) (41::r) p) (hs:At s (40:: (t.data.toList++41::r))):GO (itemE (iy m) (orE (dm (m+1))) s) r p:=by
 have e1:Lx (40:: (t.data.toList++41::r)) 5 ⟨#[40]⟩ (t.data.toList++41::r):=rfl
 unfold itemE
 refine(cu hs e1 _ (.inr (by decide))).bind fun s1 h1=> ?_
 simp only
 rw[if_neg (by decide)]
 refine(cu h1 e1 _ (.inr (by decide))).bind fun s2 h2=> ?_
 simp only
 rw[if_neg (by decide)]
 refine(ct h2 e1).bind fun s3 h3=> ?_
 simp only
 rw[if_pos trivial]
 refine(h s3 h3).bind fun s4 h4=> ?_
 rw[cm]
 exact(db h4 (show Lx (41::r) 5 ⟨#[41]⟩ r from rfl)).bind fun s5 h5=> .ok h5
theorem qg0 {d:UInt8} {r:List UInt8} (h:d=41):FI (d::r):=by
 subst h
 exact⟨YZ (.inr rfl),bI (by decide) (by decide),bI (by decide) (by decide),bI (by decide) (by decide),bI (by decide) (by decide)⟩
theorem D9 {i:Bool} {l r:List UInt8} {t:B} (hl:Lx l 5 t r) (h1:t≠ ⟨#[91]⟩) (h2:t≠ ⟨#[60]⟩) (h3:t≠ ⟨#[60,47]⟩) (h4:t≠ ⟨#[40]⟩):NB i l:=fun s hs=> by
 unfold jI
 rw[fm hs hl,if_neg (by decide),if_neg (by decide),ci hs hl,ci hs hl,ci hs hl,ci hs hl]
 simp[h1,h2,h3,h4]
theorem TC {lb lb':List B} (hlb: ∀l∈lb,bV l=true) (hlb': ∀l∈lb',bV l=true) {n:Nat} (hn:n≤100) {p:Pat} (h:ZZ lb p) (hc:p.op=1→GC lb' 1 p.cond) {k:Nat} {t:B} (ht:eT (bj 10) k p=some t):PR n p t:=by
 obtain⟨k,rfl⟩: ∃j,k=j+1:=by cases k with | zero=> cases ht | succ j=> exact⟨j,rfl⟩
 obtain⟨op,c,lab,reg,mn,mx,kids⟩:=p
 rcases h with⟨g1,g2,g3,g4,g5,g6⟩ | ⟨g1,g2,g3,g4,g5,g6,g7⟩
 ·simp only at g1 g2 g3 g4 g5 g6 hc
  subst g1;subst g3;subst g4;subst g5;subst g6
  have hg:=hc rfl
  rw[eT,oM,if_pos rfl] at ht
  obtain⟨u,hu,ht2⟩:=Option.map_eq_some_iff.1 ht
  clear ht
  simp only at hu ht2
  have tok:=fun(r:List UInt8) (hr:RI r) (m:Nat) (hm:n < m) (lab:B)=> UC (O:=orE (dm (m+1))) hlb' hg hu (fun c t cr r hr s hs=> cr.disj (m+1) (by omega) r hr s hs) hr lab
  by_cases hl:lab=E0
  ·rw[if_pos hl] at ht2
   subst hl
   subst ht2
   refine Ad hn rfl (fun r hr=> ?_) fun m hm r hr s hs=> ?_
   ·obtain⟨⟨d,q,e,hd⟩,_⟩:=tok r hr (n+1) (by omega) E0
    rw[e]
    rcases hd with rfl | ⟨rfl,v,q',rfl,h1,h2⟩
    ·exact .brk q
    ·exact .str v q' h1 h2
   ·obtain⟨⟨d,q,e,hd⟩,htok⟩:=tok r hr m hm E0
    refine zZ (Mu e ?_ ?_ ?_ hs fun s' hs'=> ?_)
    ·rcases hd with rfl | ⟨rfl,_⟩ <;> decide
    ·rcases hd with rfl | ⟨rfl,_⟩ <;> decide
    ·rcases hd with rfl | ⟨rfl,_⟩ <;> decide
    ·rw[if_neg]
     ·exact htok s' hs'
     ·rw[e] at hs'
      rcases hd with rfl | ⟨rfl,v,q',rfl,h1,h2⟩
      ·rw[fm hs' (show Lx (91::q) 5 ⟨#[91]⟩ q from rfl)]
       decide
      ·rw[fm hs' (OC h1 h2)]
       decide
  ·rw[if_neg hl] at ht2
   subst ht2
   have hk:bV lab=true:=hlb lab (g2.resolve_left hl)
   have el: ∀r,((lab++ ⟨#[58]⟩) ++bL c u).data.toList++r=lab.data.toList++58:: ((bL c u).data.toList++r):=fun r=> by simp[f9]
   obtain⟨a,w,ea,ha⟩:=rK hk
   refine Ad hn rfl (fun r hr=> ?_) fun m hm r hr s hs=> ?_
   ·obtain⟨⟨d,q,e,hd⟩,_⟩:=tok r hr (n+1) (by omega) lab
    rw[el,e]
    refine .lab lab d q hk ?_
    rcases hd with rfl | ⟨rfl,_⟩ <;> decide
   ·obtain⟨⟨d,q,e,hd⟩,htok⟩:=tok r hr m hm lab
    rw[el] at hs
    refine zZ (Mu (d:=a) (q:=w++58:: ((bL c u).data.toList++r)) (by rw[ea];rfl) (OE ha) (BS ha (by decide)) (BS ha (by decide)) hs fun s' hs'=> ?_)
    have e1:Lx (lab.data.toList++58:: ((bL c u).data.toList++r)) 2 lab (58:: ((bL c u).data.toList++r)):=fE hk (fy (by decide))
    rw[if_pos (fm hs' e1)]
    refine(cI hs' e1).bind fun s1 h1=> ?_
    have e2:Lx (58:: ((bL c u).data.toList++r)) 5 ⟨#[58]⟩ ((bL c u).data.toList++r):=by
     rw[e]
     refine Yl ?_ q
     rcases hd with rfl | ⟨rfl,_⟩ <;> decide
    exact(db h1 e2).bind fun s2 h2=> htok s2 h2
 ·simp only at g1 g2 g3 g4 g5 g6 g7
  subst g2;subst g3;subst g5;subst g6;subst g7
  have hk:=Ak g4
  rcases g1 with rfl | rfl
  ·rw[eT,oM,if_neg (by decide: ¬ (2:Int)=1),if_pos rfl] at ht
   obtain rfl:=Option.some.inj ht
   have el: ∀r,((⟨#[60]⟩ ++reg) ++ ⟨#[62]⟩:B).data.toList++r=60:: (reg.data.toList++62::r):=fun r=> by simp[f9]
   refine Ad hn rfl (fun r hr=> ?_) fun m hm r hr s hs=> ?_
   ·simp only
    rw[el]
    exact .anc reg _ hk
   ·simp only at hs
    rw[el] at hs
    exact zZ (Um hk hs)
  ·rw[eT,oM,if_neg (by decide: ¬ (3:Int)=1),if_neg (by decide: ¬ (3:Int)=2),if_pos rfl] at ht
   obtain rfl:=Option.some.inj ht
   have el: ∀r,((⟨#[60,47]⟩ ++reg) ++ ⟨#[62]⟩:B).data.toList++r=60::47:: (reg.data.toList++62::r):=fun r=> by simp[f9]
   refine Ad hn rfl (fun r hr=> ?_) fun m hm r hr s hs=> ?_
   ·simp only
    rw[el]
    exact .anc2 _
   ·simp only at hs
    rw[el] at hs
    exact zZ (Ru hk hs)
end Go.Gv

namespace Go.Gv
theorem X8 {α:Type} {sep:B} {par:α→Bool} {f:α→Option B} {a b:α} {t:B} (h:dn sep par f 0 [a,b]=some t): ∃u v,f a=some u∧f b=some v∧t.data.toList=(eX (par a) u).data.toList++ (sep.data.toList++ (eX (par b) v).data.toList):=by
 rw[dn] at h
 obtain⟨u,hu,h⟩:=Option.bind_eq_some_iff.1 h
 obtain⟨w,hw,h⟩:=Option.map_eq_some_iff.1 h
 rw[dn] at hw
 obtain⟨v,hv,hw⟩:=Option.bind_eq_some_iff.1 hw
 obtain⟨z,hz,hw⟩:=Option.map_eq_some_iff.1 hw
 rw[dn] at hz
 obtain rfl:=Option.some.inj hz
 refine⟨u,v,hu,hv,?_⟩
 rw[←h,←hw]
 simp[f9,E0]
theorem Ma {m n:Nat} {p:Pat} {t:B} (hp:uM p=true) (disj: ∀m,n < m→ ∀r i,FI r→NB i r→iA r ⟨#[124]⟩→ ∀s,At s (t.data.toList++r)→GO (altE (iy m) (orE (dm (m+1))) s i) r p) (hm:n+1 < m) {r:List UInt8} {s:Rdr} (hs:At s ((eX (uM p) t).data.toList++r)):RL (iy m) (orE (dm (m+1))) (n+1) s r p:=by
 obtain⟨m,rfl⟩: ∃j,m=j+1:=⟨m -1,by omega⟩
 rw[hp,gQ,if_pos rfl] at hs
 have hs:At s (40:: (t.data.toList++41::r)):=by simpa using hs
 refine zZ (Ul (t:=t) (fun s' hs'=> ?_) hs)
 have e1:Lx (41::r) 5 ⟨#[41]⟩ r:=rfl
 exact disj m (by omega) (41::r) true (qg0 rfl) (D9 e1 (by decide) (by decide) (by decide) (by decide)) ⟨5,⟨#[41]⟩,r,e1, .inr (by decide)⟩ s' hs'
theorem Zt (l:List UInt8):FI (32::124::l):=
 ⟨⟨yd (by decide),lX (bI (by decide) (by decide))⟩,lX (bI (by decide) (by decide)),lX (bI (by decide) (by decide)),lX (bI (by decide) (by decide)),lX (bI (by decide) (by decide))⟩
theorem Ze (i:Bool) (l:List UInt8):NB i (32::124::32::l):=D9 (show Lx _ 5 ⟨#[124]⟩ (32::l) from rfl) (by decide) (by decide) (by decide) (by decide)
theorem TB {lb lb':List B} (hlb: ∀l∈lb,bV l=true) (hlb': ∀l∈lb',bV l=true): ∀n p,WP lb n p→n≤100→(∀y∈aW p,GC lb' 1 y.cond)→ ∀k t,eT (bj 10) k p=some t→PR n p t:=by
 refine yu fun n p hp ih=> fun hn hc k t ht=> ?_
 rcases qa hp with h0 | ⟨m,rfl,h⟩
 ·exact TC hlb hlb' hn h0 (fun h1=> hc p (by rw[I0 h1];simp)) ht
 obtain⟨k,rfl⟩: ∃j,k=j+1:=by cases k with | zero=> cases ht | succ j=> exact⟨j,rfl⟩
 have sub: ∀x∈p.kids,¬p.op=1→ ∀u,eT (bj 10) k x=some u→PR m x u:=fun x hx h1 u hu=> by
  obtain⟨m1,e1,_,a1⟩:=ih x hx
  obtain rfl:m1=m:=by omega
  exact a1 (by omega) (fun y hy=> hc y (Ao h1 hx hy)) k u hu
 obtain⟨op,c,lab,reg,mn,mx,kids⟩:=p
 rcases h with⟨g1,g2,g3,g4,g5,g6,a,b,g7,ga,gb⟩ | ⟨g1,g2,g3,g4,g5,a,g7,ga⟩
 ·simp only at g1 g2 g3 g4 g5 g6 g7 sub
  subst g2;subst g3;subst g4;subst g5;subst g6;subst g7
  rw[eT,oM,if_neg (by simp only;omega),if_neg (by simp only;omega),if_neg (by simp only;omega),if_neg (by simp only;omega),if_pos (by simp only;omega)] at ht
  obtain⟨u,v,hu,hv,el⟩:=X8 ht
  simp only at el
  have ia:=sub a (by simp) (by omega) u hu
  have ib:=sub b (by simp) (by omega) v hv
  rcases g1 with rfl | rfl
  ·have pa: ∀x:Pat,lE 4 x=uM x:=fun x=> rfl
   have es: (zR 4).data.toList= [32]:=rfl
   rw[pa,pa,es] at el
   have conj: ∀m',m < m'→ ∀r i,FI r→NB i r→ ∀s,At s (t.data.toList++r)→GO (seqE (iy m') (orE (dm (m'+1))) s i) r ⟨4,Cond0,E0,E0,0,0, [a,b]⟩:=fun m' hm r i hr hb s hs=> by
    rw[el] at hs
    have hs:At s ((eX (uM a) u).data.toList++32:: ((eX (uM b) v).data.toList++r)):=by simpa using hs
    have hg:=ib.beg r hr.ri
    exact Xl (PG (ia.unit m' hm _ (Yn hg).ri s hs) (by omega) (Yn hg)) hg (fun s' hs'=> PG (ib.unit m' hm r hr.ri s' hs') (by omega) hr) hb
   have disj: ∀m',m < m'→ ∀r i,FI r→NB i r→iA r ⟨#[124]⟩→ ∀s,At s (t.data.toList++r)→GO (altE (iy m') (orE (dm (m'+1))) s i) r ⟨4,Cond0,E0,E0,0,0, [a,b]⟩:=fun m' hm r i hr hb hn s hs=> P3 (conj m' hm r i hr hb s hs) hn
   refine⟨fun r hr=> ?_,fun m' hm r hr s hs=> Ma rfl disj hm hs,fun _ m' hm=> conj m' (by omega),fun m' hm=> disj m' (by omega)⟩
   show BG ((eX true t).data.toList++r)
   rw[gQ]
   exact .par _
  ·have part: ∀ (x:Pat) (w:B),PR m x w→ ∀m',m < m'→ ∀r i,FI r→NB i r→ ∀s,At s ((eX (lE 5 x) w).data.toList++r)→GO (seqE (iy m') (orE (dm (m'+1))) s i) r x:=fun x w hx m' hm r i hr hb s hs=> by
    by_cases h5:x.op=5
    ·have e:lE 5 x=uM x:=by simp[lE,uM,h5]
     rw[e] at hs
     exact PZ (PG (hx.unit m' hm r hr.ri s hs) (by omega) hr) hb
    ·have e:lE 5 x=false:=by simp[lE,h5]
     rw[e,gQ] at hs
     exact hx.conj h5 m' hm r i hr hb s hs
   have es: (zR 5).data.toList= [32,124,32]:=rfl
   rw[es] at el
   have disj: ∀m',m < m'→ ∀r i,FI r→NB i r→iA r ⟨#[124]⟩→ ∀s,At s (t.data.toList++r)→GO (altE (iy m') (orE (dm (m'+1))) s i) r ⟨5,Cond0,E0,E0,0,0, [a,b]⟩:=fun m' hm r i hr hb hn s hs=> by
    rw[el] at hs
    have hs:At s ((eX (lE 5 a) u).data.toList++32::124::32:: ((eX (lE 5 b) v).data.toList++r)):=by simpa using hs
    exact Xo (part a u ia m' hm _ i (Zt _) (Ze i _) s hs) (fun s' hs'=> part b v ib m' hm r i hr hb s' hs') hn
   refine⟨fun r hr=> ?_,fun m' hm r hr s hs=> Ma rfl disj hm hs,fun h=> absurd rfl h,fun m' hm=> disj m' (by omega)⟩
   show BG ((eX true t).data.toList++r)
   rw[gQ]
   exact .par _
 ·simp only at g1 g2 g3 g4 g5 g7 sub
  subst g1;subst g2;subst g3;subst g4;subst g7
  rw[eT,oM,if_neg (by decide: ¬ (6:Int)=1),if_neg (by decide: ¬ (6:Int)=2),if_neg (by decide: ¬ (6:Int)=3),if_pos rfl] at ht
  simp only at ht
  rw[TH] at ht
  obtain⟨w,hw,ht⟩:=Option.bind_eq_some_iff.1 ht
  obtain⟨u,hu,ht⟩:=Option.map_eq_some_iff.1 ht
  have ia:=sub a (by simp) (by decide) w hw
  have el: ∀r,t.data.toList++r=(eX (uM a) w).data.toList++ (u.data.toList++r):=fun r=> by
   rw[←ht,f9,List.append_assoc]
   rfl
  refine Ad hn rfl (fun r hr=> ?_) fun m' hm r hr s hs=> ?_
  ·rw[el]
   exact ia.beg _ (UD hu).1
  ·rw[el] at hs
   obtain⟨g1,g2⟩:=UD hu (r:=r)
   obtain⟨s1,j,hj,h1,e⟩:=ia.unit m' (by omega) _ g1 s hs
   obtain⟨s2,e2,h2⟩:=g2 s1 h1
   refine⟨s2,j+1,by omega,h2,?_⟩
   rw[e,show 500 -j=(499 -j) +1 by omega,oL,e2,show 500 - (j+1)=499 -j by omega]
   rfl
end Go.Gv

namespace Go.Gv
section
variable {N:Rdr→Out (Rdr×Glob)}
theorem MG {s:Rdr} {l:List UInt8} {c:Glob} (h:GO (N s) l c) (hn:iA l ⟨#[38]⟩):GO (gandE N s) l c:=by
 unfold gandE
 refine h.bind fun s1 h1=> ?_
 show GO ((jo N (499+1) s1 [c]).map _) l c
 rw[jo,cm]
 refine GO.bind (l:=l) (y:= [c]) ?_ fun s2 h2=> .ok h2
 exact(hM h1 hn).bind fun s2 h2=> .ok h2
theorem UF {s:Rdr} {l l2 l3:List UInt8} {a b:Glob} (h:GO (N s) l a) (h2:Lx l 5 ⟨#[38]⟩ l2) (hb: ∀s',At s' l2→GO (N s') l3 b) (hn:iA l3 ⟨#[38]⟩):GO (gandE N s) l3 (UO 12 [a,b]):=by
 unfold gandE
 refine h.bind fun s1 h1=> ?_
 show GO ((jo N (498+1+1) s1 [a]).map _) l3 _
 rw[jo,cm]
 refine GO.bind (l:=l3) (y:= [a,b]) ?_ fun s2 h2=> .ok h2
 refine(ct h1 h2).bind fun s2 h2=> ?_
 simp only
 rw[if_pos trivial]
 refine(hb s2 h2).bind fun s3 h3=> ?_
 rw[jo]
 exact(hM h3 hn).bind fun s4 h4=> .ok h4
theorem P1 {s:Rdr} {l:List UInt8} {c:Glob} (h:GO (gandE N s) l c) (hn:iA l ⟨#[124]⟩):GO (gorE N s) l c:=by
 unfold gorE
 refine h.bind fun s1 h1=> ?_
 show GO ((lG N (499+1) s1 [c]).map _) l c
 rw[lG,cm]
 refine GO.bind (l:=l) (y:= [c]) ?_ fun s2 h2=> .ok h2
 exact(hM h1 hn).bind fun s2 h2=> .ok h2
theorem Xm {s:Rdr} {l l2 l3:List UInt8} {a b:Glob} (h:GO (gandE N s) l a) (h2:Lx l 5 ⟨#[124]⟩ l2) (hb: ∀s',At s' l2→GO (gandE N s') l3 b) (hn:iA l3 ⟨#[124]⟩):GO (gorE N s) l3 (UO 13 [a,b]):=by
 unfold gorE
 refine h.bind fun s1 h1=> ?_
 show GO ((lG N (498+1+1) s1 [a]).map _) l3 _
 rw[lG,cm]
 refine GO.bind (l:=l3) (y:= [a,b]) ?_ fun s2 h2=> .ok h2
 refine(ct h1 h2).bind fun s2 h2=> ?_
 simp only
 rw[if_pos trivial]
 refine(hb s2 h2).bind fun s3 h3=> ?_
 rw[lG]
 exact(hM h3 hn).bind fun s4 h4=> .ok h4
end
def FG (r:List UInt8):Prop:=HN r∧HS r∧iA r ⟨#[37,99]⟩
def qeq (r:List UInt8):Prop:=FG r∧iA r ⟨#[38]⟩
def qaK (r:List UInt8):Prop:=FG r∧iA r ⟨#[38]⟩∧iA r ⟨#[124]⟩
def uN (g:Glob):Bool:=decide (g.op=12) || decide (g.op=13)
theorem P9 (r:List UInt8):qaK (41::r):=⟨⟨fy (by decide),yd (by decide),bI (by decide) (by decide)⟩,bI (by decide) (by decide),bI (by decide) (by decide)⟩
structure GR (n:Nat) (c:Glob) (t:B):Prop where
 fh:FH t.data.toList
 unit: ∀m,n < m→ ∀r,FG r→ ∀s,At s ((eX (uN c) t).data.toList++r)→GO (fa m s) r c
 conj:c.op≠13→ ∀m,n < m→ ∀r,qeq r→ ∀s,At s (t.data.toList++r)→GO (gandE (fa m) s) r c
 disj: ∀m,n < m→ ∀r,qaK r→ ∀s,At s (t.data.toList++r)→GO (gorE (fa m) s) r c
theorem PV {n:Nat} {c:Glob} {t:B} (hc:uN c=false) (fh:FH t.data.toList) (h: ∀m,n < m→ ∀r,FG r→ ∀s,At s (t.data.toList++r)→GO (fa m s) r c):GR n c t:=by
 have h1: ∀m,n < m→ ∀r,qeq r→ ∀s,At s (t.data.toList++r)→GO (gandE (fa m) s) r c:=fun m hm r hr s hs=> MG (h m hm r hr.1 s hs) hr.2
 refine⟨fh,fun m hm r hr s hs=> ?_,fun _=> h1,fun m hm r hr s hs=> P1 (h1 m hm r ⟨hr.1,hr.2.1⟩ s hs) hr.2.2⟩
 rw[hc,gQ] at hs
 exact h m hm r hr s hs
theorem GB {m:Nat} {c:Glob} {t:B} (h: ∀r,qaK r→ ∀s,At s (t.data.toList++r)→GO (gorE (fa m) s) r c) (r:List UInt8) (s:Rdr) (hs:At s (40:: (t.data.toList++41::r))):GO (fa (m+1) s) r c:=by
 have e1:Lx (40:: (t.data.toList++41::r)) 5 ⟨#[40]⟩ (t.data.toList++41::r):=rfl
 show GO (gnotE (fa m) (gorE (fa m)) s) r c
 unfold gnotE
 refine(cu hs e1 _ (.inr (by decide))).bind fun s1 h1=> ?_
 simp only
 rw[if_neg (by decide)]
 refine(ct h1 e1).bind fun s2 h2=> ?_
 simp only
 rw[if_pos trivial]
 refine(h _ (P9 r) s2 h2).bind fun s3 h3=> ?_
 rw[cm]
 exact(db h3 (show Lx _ 5 ⟨#[41]⟩ r from rfl)).bind fun s4 h4=> .ok h4
end Go.Gv
