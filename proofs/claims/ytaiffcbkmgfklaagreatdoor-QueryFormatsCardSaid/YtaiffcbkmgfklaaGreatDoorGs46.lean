/- A part of the framework and of the walks: V34 V35 V36. -/
import Derived.Test.YtaiffcbkmgfklaaGreatDoorGs45
import Derived.Test.YtaiffcbkmgfklaaGreatDoorGs40
set_option linter.unusedSimpArgs false
set_option linter.unusedVariables false

namespace Go.Gv
theorem f9 (a b:B): (a++b).data.toList=a.data.toList++b.data.toList:=by rw[ByteArray.data_append,Array.toList_append]
def bV (n:B):Bool:=match n.data.toList with
 | []=> false
 | c::w=> pW ⟨c.toNat⟩ && w.all (b8 oU)
def HN (r:List UInt8):Prop:= ∀d,r.head?=some d→b8 oU d=false
def HS (r:List UInt8):Prop:= ∀d,r.head?=some d→d≠34
theorem fE {n:B} (hn:bV n=true) {r:List UInt8} (h:HN r):Lx (n.data.toList++r) 2 n r:=by
 unfold bV at hn
 split at hn
 ·cases hn
 ·rename_i c w e
  rw[Bool.and_eq_true] at hn
  have:=Xc (r:=r) hn.1 hn.2 h
  rw[←e] at this
  rw[e]
  exact this
theorem CD {s:B} (hs: (34:UInt8) ∉s.data.toList) {r:List UInt8} (h:HS r):Lx (34:: (s.data.toList++34::r)) 4 s r:=OC hs h
theorem fy {c:UInt8} {r:List UInt8} (h:b8 oU c=false):HN (c::r):=fun d hd=> by cases hd;exact h
theorem yd {c:UInt8} {r:List UInt8} (h:c≠34):HS (c::r):=fun d hd=> by cases hd;exact h
def iA (l:List UInt8) (t:B):Prop:= ∃k x r,Lx l k x r∧(k≠5∨x≠t)
theorem hM {s:Rdr} {l:List UInt8} {t:B} (h:At s l) (hn:iA l t):GO (dx s t) l false:=by
 obtain⟨k,x,r,h1,h2⟩:=hn
 exact cu h h1 t h2
inductive FC:List UInt8→Prop
 | par (r:List UInt8):FC (41::r)
 | brk (r:List UInt8):FC (93::r)
 | and (r:List UInt8):FC (32::38::32::r)
 | or (r:List UInt8):FC (32::124::32::r)
theorem Xw {r:List UInt8} (h:FC r):HN r∧HS r:=by
 cases h
 all_goals exact⟨fy (by decide),yd (by decide)⟩
theorem Xx {r:List UInt8} (h:FC r):iA r ⟨#[37,99]⟩:=by
 cases h with
 | par r=> exact⟨5,⟨#[41]⟩,r,rfl, .inr (by decide)⟩
 | brk r=> exact⟨5,⟨#[93]⟩,r,rfl, .inr (by decide)⟩
 | and r=> exact⟨5,⟨#[38]⟩,32::r,rfl, .inr (by decide)⟩
 | or r=> exact⟨5,⟨#[124]⟩,32::r,rfl, .inr (by decide)⟩
def m5 (f:Bool):List UInt8:=if f then[37,99] else[]
theorem MF {s:Rdr} {n v:B} {f:Bool} {r:List UInt8} (hv: (34:UInt8) ∉v.data.toList) (hr:HS r) (hf:iA r ⟨#[37,99]⟩) (h:At s (34:: (v.data.toList++34:: (m5 f++r)))):GO (yB s n) r ⟨2,n,E0,v,E0,f, []⟩:=by
 unfold yB
 simp only[cm]
 cases f with
 | true=>
   refine(cI h (CD hv (yd (by decide)))).bind fun s1 h1=> ?_
   exact(ct h1 (show Lx _ 5 ⟨#[37,99]⟩ r from rfl)).bind fun s2 h2=> .ok h2
 | false=>
   refine(cI h (CD hv hr)).bind fun s1 h1=> ?_
   exact(hM h1 hf).bind fun s2 h2=> .ok h2
theorem ED {v:B} {f:Bool} {t:B} (h:il (v,f)=some t): (34:UInt8) ∉v.data.toList∧t.data.toList=34:: (v.data.toList++34::m5 f):=by
 unfold il lW at h
 by_cases hv: (34:UInt8) ∈v.data.toList
 ·simp[hv] at h
 ·simp only[if_neg hv,Option.map_some,Option.some.injEq] at h
  refine⟨hv,?_⟩
  subst h
  cases f
  ·simp[f9,m5]
  ·simp[f9,m5]
theorem ES {v:B} {t:B} (h:lW v=some t): (34:UInt8) ∉v.data.toList∧t.data.toList=34:: (v.data.toList++ [34]):=by
 unfold lW at h
 by_cases hv: (34:UInt8) ∈v.data.toList
 ·simp[hv] at h
 ·simp only[if_neg hv,Option.some.injEq] at h
  refine⟨hv,?_⟩
  subst h
  simp[f9]
theorem D8 {n:B} (h:n∈yt):bV n=true∧n≠ ⟨#[105,110]⟩:=by
 have: ∀n∈yt,bV n=true∧n≠ ⟨#[105,110]⟩:=by decide
 exact this n h
theorem Ak {n:B} (h:n∈pQ):bV n=true:=by
 have: ∀n∈pQ,bV n=true:=by decide
 exact this n h
theorem UH {lb:List B} (hlb: ∀l∈lb,bV l=true) {c:Cond} (h:GA lb c) {f:Cond→Option B} {t:B} (ht:gm f c=some t) {r:List UInt8} (hr:FC r):
 (∃n q,t.data.toList++r=n.data.toList++q∧bV n=true∧HN q)∧ ∀ {s:Rdr},At s (t.data.toList++r)→GO (atomsE s) r c:=by
 obtain⟨r1,r2⟩:=Xw hr
 have r3:=Xx hr
 cases h with
 | val n v fo h1 h2=>
   rw[gm,if_neg (by decide: ¬ (2:Int)=1),if_pos rfl] at ht
   obtain⟨q,hq,ht⟩:=Option.map_eq_some_iff.1 ht
   obtain⟨k1,k2⟩:=D8 h1
   have hne: ¬n=E0:=fun e=> by rw[e] at k1;cases k1
   simp only at hq ht
   rw[if_neg hne] at ht
   obtain⟨hv,hl⟩:=ED hq
   have el:t.data.toList++r=n.data.toList++61::34:: (v.data.toList++34:: (m5 fo++r)):=by
    rw[←ht]
    simp[f9,hl]
   rw[el]
   have hnq:HN (61::34:: (v.data.toList++34:: (m5 fo++r))):=fy (by decide)
   refine⟨⟨n,_,rfl,k1,hnq⟩,fun {s} h=> ?_⟩
   have e1:Lx (61::34:: (v.data.toList++34:: (m5 fo++r))) 5 ⟨#[61]⟩ (34:: (v.data.toList++34:: (m5 fo++r))):=rfl
   unfold atomsE
   refine(cI h (fE k1 hnq)).bind fun s1 h1=> ?_
   simp only
   rw[if_neg k2]
   unfold Jk
   rw[nh h1 e1,if_neg (by decide)]
   refine(cu h1 e1 _ (.inr (by decide))).bind fun s2 h2=> ?_
   simp only
   rw[if_neg (by decide)]
   refine(db h2 e1).bind fun s3 h3=> ?_
   have e2: ¬s3.kind=2:=by
    have:=h3.kind
    rw[this]
    have: ∃k1 k2,oW (34:: (v.data.toList++34:: (m5 fo++r)))=(4,k1,k2):=by
     have:HS (m5 fo++r):=by
      cases fo
      ·exact r2
      ·exact yd (by decide)
     exact⟨_,_,CD hv this⟩
    obtain⟨_,_,e⟩:=this
    rw[e]
    show ¬ (4:Int)=2
    decide
   rw[if_neg e2]
   exact MF hv r2 r3 h3
 | feat v h1=>
   rw[gm,if_neg (by decide: ¬ (3:Int)=1),if_neg (by decide: ¬ (3:Int)=2),if_pos rfl] at ht
   obtain⟨q,hq,ht⟩:=Option.map_eq_some_iff.1 ht
   obtain⟨hv,hl⟩:=ES hq
   have el:t.data.toList++r=t_feat.data.toList++32:: ((⟨#[99,111,110,116,97,105,110,115]⟩:B).data.toList++32::34:: (v.data.toList++34::r)):=by
    rw[←ht]
    simp[f9,hl]
   rw[el]
   have k1:bV t_feat=true:=by decide
   have k2: ¬t_feat=⟨#[105,110]⟩:=by decide
   have k3:bV (⟨#[99,111,110,116,97,105,110,115]⟩:B)=true:=by decide
   refine⟨⟨t_feat,_,rfl,k1,fy (by decide)⟩,fun {s} h=> ?_⟩
   unfold atomsE
   refine(cI h (fE k1 (fy (by decide)))).bind fun s1 h1=> ?_
   simp only
   rw[if_neg k2]
   have e1:Lx (32:: ((⟨#[99,111,110,116,97,105,110,115]⟩:B).data.toList++32::34:: (v.data.toList++34::r))) 2 ⟨#[99,111,110,116,97,105,110,115]⟩ (32::34:: (v.data.toList++34::r)):=by
    unfold Lx
    rw[yn]
    exact fE k3 (fy (by decide))
   unfold Jk
   rw[nh h1 e1,if_pos (by decide)]
   refine(uj h1 e1).bind fun s2 h2=> ?_
   rw[cm]
   have e2:Lx (32::34:: (v.data.toList++34::r)) 4 v r:=by
    unfold Lx
    rw[yn]
    exact CD hv r2
   exact(cI h2 e2).bind fun s3 h3=> .ok h3
 | same n l a h1 h2 h3=>
   rw[gm,if_neg (by decide: ¬ (4:Int)=1),if_neg (by decide: ¬ (4:Int)=2),if_neg (by decide: ¬ (4:Int)=3),if_pos rfl] at ht
   obtain rfl:=Option.some.inj ht
   obtain⟨k1,k2⟩:=D8 h1
   have k3:=hlb l h2
   obtain⟨k4,_⟩:=D8 h3
   have el: ((((n++ ⟨#[61]⟩) ++l) ++ ⟨#[46]⟩) ++a).data.toList++r=n.data.toList++61:: (l.data.toList++46:: (a.data.toList++r)):=by
    simp[f9]
   simp only
   rw[el]
   refine⟨⟨n,_,rfl,k1,fy (by decide)⟩,fun {s} h=> ?_⟩
   have e1:Lx (61:: (l.data.toList++46:: (a.data.toList++r))) 5 ⟨#[61]⟩ (l.data.toList++46:: (a.data.toList++r)):=rfl
   unfold atomsE
   refine(cI h (fE k1 (fy (by decide)))).bind fun s1 h1=> ?_
   simp only
   rw[if_neg k2]
   unfold Jk
   rw[nh h1 e1,if_neg (by decide)]
   refine(cu h1 e1 _ (.inr (by decide))).bind fun s2 h2=> ?_
   simp only
   rw[if_neg (by decide)]
   refine(db h2 e1).bind fun s3 h3=> ?_
   have e2:Lx (l.data.toList++46:: (a.data.toList++r)) 2 l (46:: (a.data.toList++r)):=fE k3 (fy (by decide))
   rw[if_pos (fm h3 e2)]
   refine(cI h3 e2).bind fun s4 h4=> ?_
   refine(db h4 (show Lx _ 5 ⟨#[46]⟩ (a.data.toList++r) from rfl)).bind fun s5 h5=> ?_
   rw[cm]
   exact(cI h5 (fE k4 r1)).bind fun s6 h6=> .ok h6
 | reg n h1=>
   rw[gm,if_neg (by decide: ¬ (5:Int)=1),if_neg (by decide: ¬ (5:Int)=2),if_neg (by decide: ¬ (5:Int)=3),if_neg (by decide: ¬ (5:Int)=4),if_pos rfl,Ot,if_pos rfl] at ht
   obtain rfl:=Option.some.inj ht
   have k1:=Ak h1
   have ki:bV (⟨#[105,110]⟩:B)=true:=by decide
   have el: ((⟨#[105,110,40]⟩ ++n) ++ ⟨#[41]⟩:B).data.toList++r=(⟨#[105,110]⟩:B).data.toList++40:: (n.data.toList++41::r):=by
    simp[f9]
   simp only
   rw[el]
   refine⟨⟨_,_,rfl,ki,fy (by decide)⟩,fun {s} h=> ?_⟩
   unfold atomsE
   refine(cI h (fE ki (fy (by decide)))).bind fun s1 h1=> ?_
   simp only
   rw[if_pos trivial]
   refine(ct h1 (show Lx _ 5 ⟨#[40]⟩ (n.data.toList++41::r) from rfl)).bind fun s2 h2=> ?_
   simp only
   rw[if_pos trivial]
   unfold D5
   simp only[cm]
   refine(cI h2 (fE k1 (fy (by decide)))).bind fun s3 h3=> ?_
   have e3:Lx (41::r) 5 ⟨#[41]⟩ r:=rfl
   refine(cu h3 e3 _ (.inr (by decide))).bind fun s4 h4=> ?_
   simp only
   rw[if_neg (by decide)]
   exact(db h4 e3).bind fun s5 h5=> .ok h5
 | regk n v h1 h2=>
   rw[gm,if_neg (by decide: ¬ (5:Int)=1),if_neg (by decide: ¬ (5:Int)=2),if_neg (by decide: ¬ (5:Int)=3),if_neg (by decide: ¬ (5:Int)=4),if_pos rfl,Ot,if_neg (show ¬t_n=E0 by decide)] at ht
   obtain⟨q,hq,ht⟩:=Option.map_eq_some_iff.1 ht
   obtain⟨hv,hl⟩:=ES hq
   have k1:=Ak h1
   have ki:bV (⟨#[105,110]⟩:B)=true:=by decide
   have kn:bV t_n=true:=by decide
   have el:t.data.toList++r=(⟨#[105,110]⟩:B).data.toList++40:: (n.data.toList++44:: (t_n.data.toList++61::34:: (v.data.toList++34::41::r))):=by
    rw[←ht]
    simp[f9,hl]
   rw[el]
   refine⟨⟨_,_,rfl,ki,fy (by decide)⟩,fun {s} h=> ?_⟩
   unfold atomsE
   refine(cI h (fE ki (fy (by decide)))).bind fun s1 h1=> ?_
   simp only
   rw[if_pos trivial]
   refine(ct h1 (show Lx _ 5 ⟨#[40]⟩ _ from rfl)).bind fun s2 h2=> ?_
   simp only
   rw[if_pos trivial]
   unfold D5
   simp only[cm]
   refine(cI h2 (fE k1 (fy (by decide)))).bind fun s3 h3=> ?_
   refine(ct h3 (show Lx _ 5 ⟨#[44]⟩ _ from rfl)).bind fun s4 h4=> ?_
   simp only
   rw[if_pos trivial]
   refine(cI h4 (fE kn (fy (by decide)))).bind fun s5 h5=> ?_
   refine(db h5 (show Lx _ 5 ⟨#[61]⟩ _ from rfl)).bind fun s6 h6=> ?_
   refine(cI h6 (CD hv (yd (by decide)))).bind fun s7 h7=> ?_
   exact(db h7 (show Lx _ 5 ⟨#[41]⟩ r from rfl)).bind fun s8 h8=> .ok h8
end Go.Gv

namespace Go.Gv
section
variable {N:Rdr→Out (Rdr×Cond)}
theorem P2 {s:Rdr} {l:List UInt8} {c:Cond} (h:GO (N s) l c) (hn:iA l ⟨#[38]⟩):GO (andE N s) l c:=by
 unfold andE
 refine h.bind fun s1 h1=> ?_
 show GO ((lO N (499+1) s1 [c]).map _) l c
 rw[lO,cm]
 refine GO.bind (l:=l) (y:= [c]) ?_ fun s2 h2=> .ok h2
 exact(hM h1 hn).bind fun s2 h2=> .ok h2
theorem Xn {s:Rdr} {l l2 l3:List UInt8} {a b:Cond} (h:GO (N s) l a) (h2:Lx l 5 ⟨#[38]⟩ l2) (hb: ∀s',At s' l2→GO (N s') l3 b) (hn:iA l3 ⟨#[38]⟩):GO (andE N s) l3 (Vp 7 [a,b]):=by
 unfold andE
 refine h.bind fun s1 h1=> ?_
 show GO ((lO N (498+1+1) s1 [a]).map _) l3 _
 rw[lO,cm]
 refine GO.bind (l:=l3) (y:= [a,b]) ?_ fun s2 h2=> .ok h2
 refine(ct h1 h2).bind fun s2 h2=> ?_
 simp only
 rw[if_pos trivial]
 refine(hb s2 h2).bind fun s3 h3=> ?_
 rw[lO]
 exact(hM h3 hn).bind fun s4 h4=> .ok h4
theorem UE {s:Rdr} {l:List UInt8} {c:Cond} (h:GO (andE N s) l c) (hn:iA l ⟨#[124]⟩):GO (orE N s) l c:=by
 unfold orE
 refine h.bind fun s1 h1=> ?_
 show GO ((oh N (499+1) s1 [c]).map _) l c
 rw[oh,cm]
 refine GO.bind (l:=l) (y:= [c]) ?_ fun s2 h2=> .ok h2
 exact(hM h1 hn).bind fun s2 h2=> .ok h2
theorem Zo {s:Rdr} {l l2 l3:List UInt8} {a b:Cond} (h:GO (andE N s) l a) (h2:Lx l 5 ⟨#[124]⟩ l2) (hb: ∀s',At s' l2→GO (andE N s') l3 b) (hn:iA l3 ⟨#[124]⟩):GO (orE N s) l3 (Vp 8 [a,b]):=by
 unfold orE
 refine h.bind fun s1 h1=> ?_
 show GO ((oh N (498+1+1) s1 [a]).map _) l3 _
 rw[oh,cm]
 refine GO.bind (l:=l3) (y:= [a,b]) ?_ fun s2 h2=> .ok h2
 refine(ct h1 h2).bind fun s2 h2=> ?_
 simp only
 rw[if_pos trivial]
 refine(hb s2 h2).bind fun s3 h3=> ?_
 rw[oh]
 exact(hM h3 hn).bind fun s4 h4=> .ok h4
end
inductive FE:List UInt8→Prop
 | par (r:List UInt8):FE (41::r)
 | brk (r:List UInt8):FE (93::r)
theorem qbL {r:List UInt8} (h:FE r):FC r:=by cases h <;> constructor
theorem K0 {r:List UInt8} (h:FE r):iA r ⟨#[38]⟩∧iA r ⟨#[124]⟩:=by
 cases h with
 | par r=> exact⟨⟨5,⟨#[41]⟩,r,rfl, .inr (by decide)⟩,⟨5,⟨#[41]⟩,r,rfl, .inr (by decide)⟩⟩
 | brk r=> exact⟨⟨5,⟨#[93]⟩,r,rfl, .inr (by decide)⟩,⟨5,⟨#[93]⟩,r,rfl, .inr (by decide)⟩⟩
def FO (r:List UInt8):Prop:=FE r∨ ∃q,r=32::124::32::q
theorem US {r:List UInt8} (h:FO r):FC r:=by
 rcases h with h | ⟨q,rfl⟩
 ·exact qbL h
 ·exact .or q
theorem O3 {r:List UInt8} (h:FO r):iA r ⟨#[38]⟩:=by
 rcases h with h | ⟨q,rfl⟩
 ·exact(K0 h).1
 ·exact⟨5,⟨#[124]⟩,32::q,rfl, .inr (by decide)⟩
theorem CU {s:Rdr} {l:List UInt8} (h:At s (32::l)):At s l:=XS h (yn l)
def FH (l:List UInt8):Prop:= ∃d q,l=d::q∧(d=33∨d=40∨pW ⟨d.toNat⟩=true)
def se (c:Cond):Bool:=decide (c.op=7) || decide (c.op=8)
theorem gQ (p:Bool) (t:B): (eX p t).data.toList=if p then 40:: (t.data.toList++ [41]) else t.data.toList:=by
 unfold eX
 cases p
 ·rfl
 ·simp[f9]
theorem P8 {p:Bool} {t:B} (h:FH t.data.toList):FH (eX p t).data.toList:=by
 rw[gQ]
 cases p
 ·exact h
 ·exact⟨40,_,rfl, .inr (.inl rfl)⟩
theorem XQ {l:List UInt8} (h:FH l) (r:List UInt8):Lx (33:: (l++r)) 5 ⟨#[33]⟩ (l++r):=by
 obtain⟨d,q,rfl,h⟩:=h
 have hd: ¬d=61:=by
  rcases h with rfl | rfl | h
  ·decide
  ·decide
  ·rintro rfl
   exact absurd h (by decide)
 have hd2: ((61:UInt8)==d)=false:=by simpa using fun e=> hd e.symm
 unfold Lx oW
 rw[List.dropWhile_cons_of_neg (by decide)]
 simp only
 rw[if_neg (by decide),if_neg (by decide),if_neg (by decide)]
 have:sgnL.find? (fun x=> x.isPrefixOf (33:: (d::q++r)))=some [33]:=by
  simp[sgnL,signsL,List.find?,List.isPrefixOf,hd2]
 rw[this]
 rfl
structure CR (n:Nat) (c:Cond) (t:B):Prop where
 fh:FH t.data.toList
 unit: ∀m,n < m→ ∀r,FC r→ ∀s,At s ((eX (se c) t).data.toList++r)→GO (dm m s) r c
 conj:c.op≠8→ ∀m,n < m→ ∀r,FO r→ ∀s,At s (t.data.toList++r)→GO (andE (dm m) s) r c
 disj: ∀m,n < m→ ∀r,FE r→ ∀s,At s (t.data.toList++r)→GO (orE (dm m) s) r c
theorem Ql {n:Nat} {c:Cond} {t:B} (hc:se c=false) (fh:FH t.data.toList) (h: ∀m,n < m→ ∀r,FC r→ ∀s,At s (t.data.toList++r)→GO (dm m s) r c):CR n c t:=by
 have h1: ∀m,n < m→ ∀r,FO r→ ∀s,At s (t.data.toList++r)→GO (andE (dm m) s) r c:=fun m hm r hr s hs=> P2 (h m hm r (US hr) s hs) (O3 hr)
 refine⟨fh,fun m hm r hr s hs=> ?_,fun _=> h1,fun m hm r hr s hs=> UE (h1 m hm r (.inl hr) s hs) (K0 hr).2⟩
 rw[hc,gQ] at hs
 exact h m hm r hr s hs
theorem IT {m:Nat} {c:Cond} {t:B} (h: ∀r,FE r→ ∀s,At s (t.data.toList++r)→GO (orE (dm m) s) r c) (r:List UInt8) (s:Rdr) (hs:At s (40:: (t.data.toList++41::r))):GO (dm (m+1) s) r c:=by
 have e1:Lx (40:: (t.data.toList++41::r)) 5 ⟨#[40]⟩ (t.data.toList++41::r):=rfl
 show GO (notE (dm m) (orE (dm m)) s) r c
 unfold notE
 refine(cu hs e1 _ (.inr (by decide))).bind fun s1 h1=> ?_
 simp only
 rw[if_neg (by decide)]
 refine(ct h1 e1).bind fun s2 h2=> ?_
 simp only
 rw[if_pos trivial]
 refine(h _ (.par r) s2 h2).bind fun s3 h3=> ?_
 rw[cm]
 exact(db h3 (show Lx _ 5 ⟨#[41]⟩ r from rfl)).bind fun s4 h4=> .ok h4
theorem xm {lb:List B} (hlb: ∀l∈lb,bV l=true): ∀ {n:Nat} {c:Cond},GI lb n c→ ∀k t,bj k c=some t→CR n c t
 | _,_, .atom n c h,k,t,ht=> by
   obtain⟨k,rfl⟩: ∃j,k=j+1:=by cases k with | zero=> cases ht | succ j=> exact⟨j,rfl⟩
   have hno:se c=false:=by cases h <;> rfl
   have g:=fun r hr=> UH hlb h (f:=bj k) (t:=t) ht (r:=r) hr
   have fh:FH t.data.toList:=by
    obtain⟨n',q,e,e1,e2⟩:=(g [41] (.par [])).1
    unfold bV at e1
    split at e1
    ·cases e1
    ·rename_i d w ew
     rw[Bool.and_eq_true] at e1
     rw[ew] at e
     cases hl:t.data.toList with
     | nil=>
       rw[hl] at e
       simp at e
       exact absurd e1.1 (by rw[←e.1];decide)
     | cons d' q'=>
       rw[hl] at e
       simp at e
       exact⟨d',q',rfl, .inr (.inr (by rw[e.1];exact e1.1))⟩
   refine Ql hno fh fun m hm r hr s hs=> ?_
   obtain⟨m,rfl⟩: ∃j,m=j+1:=⟨m -1,by omega⟩
   obtain⟨⟨n',q,e,e1,e2⟩,g2⟩:=g r hr
   have hx:Lx (t.data.toList++r) 2 n' q:=by rw[e];exact fE e1 e2
   show GO (notE (dm m) (orE (dm m)) s) r c
   unfold notE
   refine(cu hs hx _ (.inl (by decide))).bind fun s1 h1=> ?_
   simp only
   rw[if_neg (by decide)]
   refine(cu h1 hx _ (.inl (by decide))).bind fun s2 h2=> ?_
   simp only
   rw[if_neg (by decide)]
   exact g2 h2
 | _,_, .not n c h,k,t,ht=> by
   obtain⟨k,rfl⟩: ∃j,k=j+1:=by cases k with | zero=> cases ht | succ j=> exact⟨j,rfl⟩
   rw[bj,gm,if_neg (by decide: ¬ (6:Int)=1),if_neg (by decide: ¬ (6:Int)=2),if_neg (by decide: ¬ (6:Int)=3),if_neg (by decide: ¬ (6:Int)=4),if_neg (by decide: ¬ (6:Int)=5),if_pos rfl] at ht
   obtain⟨u,hu,ht⟩:=Option.map_eq_some_iff.1 ht
   have ih:=xm hlb h k u hu
   have el:t.data.toList=33:: (eX (se c) u).data.toList:=by
    rw[←ht,f9]
    rfl
   refine Ql rfl (by rw[el];exact⟨33,_,rfl, .inl rfl⟩) fun m hm r hr s hs=> ?_
   obtain⟨m,rfl⟩: ∃j,m=j+1:=⟨m -1,by omega⟩
   rw[el] at hs
   show GO (notE (dm m) (orE (dm m)) s) r _
   unfold notE
   refine(ct hs (XQ (P8 ih.fh) r)).bind fun s1 h1=> ?_
   simp only
   rw[if_pos trivial,cm]
   exact(ih.unit m (by omega) r hr s1 h1).bind fun s2 h2=> .ok h2
 | _,_, .two n op a b ho h1 h2,k,t,ht=> by
   obtain⟨k,rfl⟩: ∃j,k=j+1:=by cases k with | zero=> cases ht | succ j=> exact⟨j,rfl⟩
   rw[bj,gm,if_neg (by omega: ¬op=1),if_neg (by omega: ¬op=2),if_neg (by omega: ¬op=3),if_neg (by omega: ¬op=4),if_neg (by omega: ¬op=5),if_neg (by omega: ¬op=6),if_pos ho] at ht
   simp only at ht
   rw[dn] at ht
   obtain⟨u,hu,ht⟩:=Option.bind_eq_some_iff.1 ht
   obtain⟨w,hw,ht⟩:=Option.map_eq_some_iff.1 ht
   rw[dn] at hw
   obtain⟨v,hv,hw⟩:=Option.bind_eq_some_iff.1 hw
   obtain⟨z,hz,hw⟩:=Option.map_eq_some_iff.1 hw
   rw[dn] at hz
   obtain rfl:=Option.some.inj hz
   have ia:=xm hlb h1 k u hu
   have ib:=xm hlb h2 k v hv
   have el:t.data.toList=(eX (lk op a) u).data.toList++ ((kI (op=7)).data.toList++ (eX (lk op b) v).data.toList):=by
    rw[←ht,←hw]
    simp[f9,E0]
   have fh:FH t.data.toList:=by
    obtain⟨d,q,e,h⟩:=P8 (p:=lk op a) ia.fh
    rw[el,e]
    exact⟨d,_,rfl,h⟩
   rcases ho with rfl | rfl
   ·have pa: ∀x:Cond,lk 7 x=se x:=fun x=> by unfold lk se;rw[Bool.or_comm];rfl
    rw[pa,pa] at el
    have es: (kI ((7:Int)=7)).data.toList= [32,38,32]:=rfl
    have conj: ∀m,n < m→ ∀r,FO r→ ∀s,At s (t.data.toList++r)→GO (andE (dm m) s) r ⟨7,E0,E0,E0,E0,false, [a,b]⟩:=fun m hm r hr s hs=> by
     rw[el,es,List.append_assoc,List.append_assoc] at hs
     exact Xn (ia.unit m hm _ (.and _) s hs) rfl (fun s' hs'=> ib.unit m hm r (US hr) s' (CU hs')) (O3 hr)
    have disj: ∀m,n < m→ ∀r,FE r→ ∀s,At s (t.data.toList++r)→GO (orE (dm m) s) r ⟨7,E0,E0,E0,E0,false, [a,b]⟩:=fun m hm r hr s hs=> UE (conj m hm r (.inl hr) s hs) (K0 hr).2
    refine⟨fh,fun m hm r hr s hs=> ?_,fun _ m hm=> conj m (by omega),fun m hm=> disj m (by omega)⟩
    obtain⟨m,rfl⟩: ∃j,m=j+1:=⟨m -1,by omega⟩
    refine IT (t:=t) (disj m (by omega)) r s ?_
    rw[gQ,show se (⟨7,E0,E0,E0,E0,false, [a,b]⟩:Cond)=true from rfl,if_pos rfl] at hs
    simpa using hs
   ·have part: ∀ (x:Cond) (w:B),CR n x w→ ∀m,n < m→ ∀r,FO r→ ∀s,At s ((eX (lk 8 x) w).data.toList++r)→GO (andE (dm m) s) r x:=fun x w hx m hm r hr s hs=> by
     by_cases h8:x.op=8
     ·refine P2 (hx.unit m hm r (US hr) s ?_) (O3 hr)
      have e:lk 8 x=se x:=by simp[lk,se,h8]
      rw[←e]
      exact hs
     ·have e:lk 8 x=false:=by simp[lk,h8]
      rw[e,gQ] at hs
      exact hx.conj h8 m hm r hr s hs
    have es: (kI ((8:Int)=7)).data.toList= [32,124,32]:=rfl
    have disj: ∀m,n < m→ ∀r,FE r→ ∀s,At s (t.data.toList++r)→GO (orE (dm m) s) r ⟨8,E0,E0,E0,E0,false, [a,b]⟩:=fun m hm r hr s hs=> by
     rw[el,es,List.append_assoc,List.append_assoc] at hs
     exact Zo (part a u ia m hm _ (.inr ⟨_,rfl⟩) s hs) rfl (fun s' hs'=> part b v ib m hm r (.inl hr) s' (CU hs')) (K0 hr).2
    refine⟨fh,fun m hm r hr s hs=> ?_,fun h=> absurd rfl h,fun m hm=> disj m (by omega)⟩
    obtain⟨m,rfl⟩: ∃j,m=j+1:=⟨m -1,by omega⟩
    refine IT (t:=t) (disj m (by omega)) r s ?_
    rw[gQ,show se (⟨8,E0,E0,E0,E0,false, [a,b]⟩:Cond)=true from rfl,if_pos rfl] at hs
    simpa using hs
end Go.Gv

namespace Go.Gv
theorem bI {d:UInt8} {r:List UInt8} {x:B} (hd:b8 Cy d=false) (hx:x.data.toList.head?≠some d):iA (d::r) x:=by
 have e:oW (d::r)=oW (d::r):=rfl
 unfold iA
 have hdw: (d::r).dropWhile (b8 Cy)=d::r:=List.dropWhile_cons_of_neg (by rw[hd];simp)
 have key: (oW (d::r)).1≠5∨(oW (d::r)).2.1≠x.data.toList:=by
  unfold oW
  rw[hdw]
  simp only
  split
  ·exact .inl (show(2:Int)≠5 by decide)
  split
  ·exact .inl (show(3:Int)≠5 by decide)
  split
  ·cases xH r [] with
   | none=> exact .inl (show(1:Int)≠5 by decide)
   | some q=> exact .inl (show(4:Int)≠5 by decide)
  ·cases hf:sgnL.find? (fun y=> y.isPrefixOf (d::r)) with
   | none=> exact .inl (show(1:Int)≠5 by decide)
   | some y=>
     refine .inr ?_
     simp only
     rintro rfl
     have hm:=List.mem_of_find?_eq_some hf
     have hp:=List.find?_some hf
     cases hy:x.data.toList with
     | nil=>
       have: ([]:List UInt8) ∉sgnL:=by decide
       rw[hy] at hm
       exact this hm
     | cons a q=>
       rw[hy] at hp
       simp[List.isPrefixOf] at hp
       rw[hy] at hx
       exact hx (by rw[hp.1];rfl)
 refine⟨(oW (d::r)).1,⟨(oW (d::r)).2.1.toArray⟩,(oW (d::r)).2.2,rfl,?_⟩
 rcases key with h | h
 ·exact .inl h
 ·refine .inr fun e=> h ?_
  rw[←e]
def RI (r:List UInt8):Prop:=HS r∧iA r ⟨#[37,99]⟩
structure FI (r:List UInt8):Prop where
 ri:RI r
 s1:iA r ⟨#[63]⟩
 s2:iA r ⟨#[42]⟩
 s3:iA r ⟨#[43]⟩
 s4:iA r ⟨#[123]⟩
theorem LZ {d:UInt8} {r:List UInt8} (h1:d≠34) (h2:b8 Cy d=false) (h3:d≠37):RI (d::r):=
 ⟨yd h1,bI h2 fun h=> h3 (by cases h;rfl)⟩
theorem lX {l:List UInt8} {t:B} (h:iA l t):iA (32::l) t:=by
 obtain⟨k,x,r,h1,h2⟩:=h
 exact⟨k,x,r,by unfold Lx;rw[yn];exact h1,h2⟩
section
variable {O:Rdr→Out (Rdr×Cond)}
theorem UC {lb:List B} (hlb: ∀l∈lb,bV l=true) {c:Cond} (h:GC lb 1 c) {t:B} (ht:bj 10 c=some t) (hO: ∀c t,CR 1 c t→ ∀r,FE r→ ∀s,At s (t.data.toList++r)→GO (O s) r c) {r:List UInt8} (hr:RI r) (lab:B):
 (∃d q,(bL c t).data.toList++r=d::q∧(d=91∨d=34∧ ∃v q',q=v++34::q'∧(34:UInt8) ∉v∧HS q'))∧ ∀s,At s ((bL c t).data.toList++r)→GO (tokenE O s lab) r ⟨1,c,lab,E0,0,0, []⟩:=by
 have inner: ∀c:Cond,¬jy c→GI lb 1 c→bj 10 c=some t→(∃d q,(bL c t).data.toList++r=d::q∧(d=91∨d=34∧ ∃v q',q=v++34::q'∧(34:UInt8) ∉v∧HS q'))∧ ∀s,At s ((bL c t).data.toList++r)→GO (tokenE O s lab) r ⟨1,c,lab,E0,0,0, []⟩:=by
  intro c hp hg ht
  have cr:=xm hlb hg 10 t ht
  have el: (bL c t).data.toList++r=91:: (t.data.toList++93::r):=by
   unfold bL
   rw[if_neg hp]
   simp[f9]
  rw[el]
  refine⟨⟨91,_,rfl, .inl rfl⟩,fun s hs=> ?_⟩
  unfold tokenE
  refine(ct hs (show Lx _ 5 ⟨#[91]⟩ (t.data.toList++93::r) from rfl)).bind fun s1 h1=> ?_
  simp only
  rw[if_pos trivial]
  obtain⟨d,q,e,hd⟩:=cr.fh
  have hn:iA (t.data.toList++93::r) ⟨#[93]⟩:=by
   rw[e]
   refine bI ?_ ?_
   ·rcases hd with rfl | rfl | hd
    ·decide
    ·decide
    ·unfold b8 Cy
     unfold pW yf at hd
     simp only[decide_eq_true_eq] at hd
     simp only[decide_eq_false_iff_not]
     omega
   ·rcases hd with rfl | rfl | hd
    ·decide
    ·decide
    ·intro he
     have he:some (93:UInt8)=some d:=he
     cases he
     exact absurd hd (by decide)
  obtain⟨k,x,r',hx,hne⟩:=hn
  rw[ci h1 hx,if_neg (by rcases hne with hne | hne <;> simp[hne])]
  refine(hO c t cr _ (.brk r) s1 h1).bind fun s2 h2=> ?_
  rw[cm]
  exact(db h2 (show Lx _ 5 ⟨#[93]⟩ r from rfl)).bind fun s3 h3=> .ok h3
 cases h with
 | any=>
   obtain rfl:=Option.some.inj ht
   have el: (bL (⟨1,E0,E0,E0,E0,false, []⟩:Cond) ⟨#[91,93]⟩).data.toList++r=91::93::r:=rfl
   rw[el]
   refine⟨⟨91,_,rfl, .inl rfl⟩,fun s hs=> ?_⟩
   unfold tokenE
   refine(ct hs (show Lx _ 5 ⟨#[91]⟩ (93::r) from rfl)).bind fun s1 h1=> ?_
   simp only
   have e1:Lx (93::r) 5 ⟨#[93]⟩ r:=rfl
   rw[if_pos trivial,ci h1 e1,if_pos (by decide),cm]
   exact(db h1 e1).bind fun s2 h2=> .ok h2
 | top v f h=>
   have hv:=IL ht
   obtain⟨h34,hl⟩:=ED hv
   have el: (bL (⟨2,E0,E0,v,E0,f, []⟩:Cond) t).data.toList++r=34:: (v.data.toList++34:: (m5 f++r)):=by
    unfold bL
    rw[if_pos (show jy _ from .inr ⟨rfl,rfl⟩),hl]
    simp
   rw[el]
   have hs':HS (m5 f++r):=by
    cases f
    ·exact hr.1
    ·exact yd (by decide)
   refine⟨⟨34,_,rfl, .inr ⟨rfl,_,_,rfl,h34,hs'⟩⟩,fun s hs=> ?_⟩
   unfold tokenE
   refine(cu hs (CD h34 hs') _ (.inl (by decide))).bind fun s1 h1=> ?_
   simp only
   rw[if_neg (by decide),cm]
   exact(MF h34 hr.1 hr.2 h1).bind fun s2 h2=> .ok h2
 | inner c h=>
   refine inner c ?_ h ht
   cases h with
   | atom n c h=>
     cases h with
     | val n v f h1 h2=>
       rintro(h | ⟨_,h⟩)
       ·exact absurd h (by simp)
       ·have h:n=E0:=h
        rw[h] at h1
        exact absurd h1 (by decide)
     | _=> rintro(h | ⟨h,_⟩) <;> exact absurd h (by simp)
   | not n k h=> rintro(h | ⟨h,_⟩) <;> exact absurd h (by simp)
   | two n op a b ho h1 h2=>
     rintro(h | ⟨h,_⟩)
     ·have h:op=1:=h
      omega
     ·have h:op=2:=h
      omega
end
end Go.Gv
