/- A part of the framework and of the walks: V41 V42 V43 V44. -/
import Derived.Test.YtaiffcbkmgfklaaGreatDoorGs47
import Derived.Test.YtaiffcbkmgfklaaGreatDoorGs35
set_option linter.unusedSimpArgs false
set_option linter.unusedVariables false

namespace Go.Gv
theorem M5 {n:Int} (h0:0≤n) (h1:n < 10) {t:B} (ht:mb n=some t) {c:UInt8} (hc:c=44∨c=41) (q:List UInt8):Lx (t.data.toList++c::q) 3 t (c::q)∧yo t=true∧DI 100000 t=n∧iA (t.data.toList++c::q) ⟨#[45]⟩:=by
 have:n=0∨n=1∨n=2∨n=3∨n=4∨n=5∨n=6∨n=7∨n=8∨n=9:=by omega
 rcases this with rfl | rfl | rfl | rfl | rfl | rfl | rfl | rfl | rfl | rfl <;>
  (obtain rfl:=Option.some.inj ht
   rcases hc with rfl | rfl <;> exact⟨rfl,by decide,by decide,bI (by decide) (by decide)⟩)
theorem KU {n:Int} (h0:0≤n) (h1:n < 10) {t:B} (ht:mb n=some t) {c:UInt8} (hc:c=44∨c=41) {q:List UInt8} {s:Rdr} (hs:At s (t.data.toList++c::q)):GO (bigE s) (c::q) n:=by
 obtain⟨e1,e2,e3,_⟩:=M5 h0 h1 ht hc q
 exact zk e1 e2 (by decide) e3 (by omega) hs
theorem I7 {n:Int} (h0: -10 < n) (h1:n < 10) {t:B} (ht:mb n=some t) {c:UInt8} (hc:c=44∨c=41) {q:List UInt8} {s:Rdr} (hs:At s (t.data.toList++c::q)):GO (signedE s) (c::q) n:=by
 unfold signedE
 by_cases hn:0≤n
 ·obtain⟨_,_,_,e4⟩:=M5 hn h1 ht hc q
  refine(hM hs e4).bind fun s1 g1=> ?_
  simp only
  rw[if_neg (by decide)]
  exact KU hn h1 ht hc g1
 ·unfold mb at ht
  rw[if_neg (by omega),if_pos (by omega)] at ht
  obtain rfl:=Option.some.inj ht
  have hd:mb (-n)=some ⟨#[(48+ -n).toNat.toUInt8]⟩:=by
   unfold mb
   rw[if_pos (by omega)]
  have hs:At s (45:: ((⟨#[(48+ -n).toNat.toUInt8]⟩:B).data.toList++c::q)):=by
   rw[f9] at hs
   exact hs
  refine(ct hs (show Lx _ 5 ⟨#[45]⟩ ((⟨#[(48+ -n).toNat.toUInt8]⟩:B).data.toList++c::q) from rfl)).bind fun s1 g1=> ?_
  simp only
  rw[if_pos trivial,cm]
  refine(KU (n:= -n) (by omega) (by omega) hd hc g1).bind fun s2 g2=> ?_
  have e: -(-n)=n:=by omega
  simp only[e]
  exact .ok g2
def Mg (l:B):Prop:=bV l=true∧l9 l=0
theorem qH {n:B} (hn:bV n=true) {r:List UInt8} (hr:HN r) {s:Rdr} (hs:At s (44:: (n.data.toList++r))):GO (zm s) r n:=by
 unfold zm
 exact(db hs (show Lx _ 5 ⟨#[44]⟩ (n.data.toList++r) from rfl)).bind fun s1 h1=> cI h1 (fE hn hr)
theorem Si {l:List B} (h: ∀x∈l,x∈Sk): ∀ {t:B},gp l=some t→ ∀ (k:Nat),l.length < k→ ∀ (acc:List B) (r:List UInt8) (s:Rdr),At s (t.data.toList++41::r)→GO (mr k s acc) (41::r) (acc++l):=by
 induction l with
 | nil=>
   intro t ht k hk acc r s hs
   obtain rfl:=Option.some.inj ht
   obtain⟨k,rfl⟩: ∃j,k=j+1:=⟨k -1,by simp at hk;omega⟩
   rw[mr]
   refine(cu hs (show Lx (41::r) 5 ⟨#[41]⟩ r from rfl) _ (.inr (by decide))).bind fun s1 h1=> ?_
   simp only
   rw[if_neg (by decide),List.append_nil]
   exact .ok h1
 | cons a l ih=>
   intro t ht k hk acc r s hs
   rw[gp] at ht
   obtain⟨u,hu,ht⟩:=Option.bind_eq_some_iff.1 ht
   obtain⟨w,hw,ht⟩:=Option.map_eq_some_iff.1 ht
   obtain⟨h34,hl⟩:=ES hu
   obtain⟨k,rfl⟩: ∃j,k=j+1:=⟨k -1,by simp at hk;omega⟩
   have el:t.data.toList++41::r=44::34:: (a.data.toList++34:: (w.data.toList++41::r)):=by
    rw[←ht]
    simp[f9,hl]
   rw[el] at hs
   have hhs:HS (w.data.toList++41::r):=by
    cases l with
    | nil=>
      obtain rfl:=Option.some.inj hw
      exact yd (by decide)
    | cons b l=>
      rw[gp] at hw
      obtain⟨u2,_,hw⟩:=Option.bind_eq_some_iff.1 hw
      obtain⟨w2,_,hw⟩:=Option.map_eq_some_iff.1 hw
      rw[←hw,f9,f9,List.append_assoc,List.append_assoc]
      exact yd (by decide)
   rw[mr]
   refine(ct hs (show Lx _ 5 ⟨#[44]⟩ _ from rfl)).bind fun s1 h1=> ?_
   simp only
   rw[if_pos trivial]
   refine(cI h1 (CD h34 hhs)).bind fun s2 h2=> ?_
   have:=ih (fun x hx=> h x (by simp[hx])) hw k (by simp at hk;omega) (acc++ [a]) r s2 h2
   rw[List.append_assoc] at this
   exact this
theorem P7 {op:Int} {w:B} (h:Cg op=some w):bV w=true∧l9 w=op∧0 < op:=by
 unfold Cg at h
 split at h
 ·rename_i e;subst e;obtain rfl:=Option.some.inj h;decide
 split at h
 ·rename_i e;subst e;obtain rfl:=Option.some.inj h;decide
 split at h
 ·rename_i e;subst e;obtain rfl:=Option.some.inj h;decide
 split at h
 ·rename_i e;subst e;obtain rfl:=Option.some.inj h;decide
 split at h
 ·rename_i e;subst e;obtain rfl:=Option.some.inj h;decide
 split at h
 ·rename_i e;subst e;obtain rfl:=Option.some.inj h;decide
 split at h
 ·rename_i e;subst e;obtain rfl:=Option.some.inj h;decide
 split at h
 ·rename_i e;subst e;obtain rfl:=Option.some.inj h;decide
 ·cases h
theorem R8 {op:Int} {w a:B} (hw:Cg op=some w) (ha:bV a=true) {l r:List UInt8} (hl:HN l) {g:Glob} (h: ∀s,At s l→GO (argsE s op a) (41::r) g):
 ∀s,At s (w.data.toList++40:: (a.data.toList++l))→GO (gatomsE s) r g:=fun s hs=> by
 obtain⟨k1,k2,k3⟩:=P7 hw
 unfold gatomsE
 refine(cI hs (fE k1 (fy (by decide)))).bind fun s1 h1=> ?_
 simp only
 rw[k2,if_pos k3]
 refine(ct h1 (show Lx _ 5 ⟨#[40]⟩ (a.data.toList++l) from rfl)).bind fun s2 h2=> ?_
 simp only
 rw[if_pos trivial]
 refine(cI h2 (fE ha hl)).bind fun s3 h3=> ?_
 refine(h s3 h3).bind fun s4 h4=> ?_
 rw[cm]
 exact(db h4 (show Lx (41::r) 5 ⟨#[41]⟩ r from rfl)).bind fun s5 h5=> .ok h5
end Go.Gv

namespace Go.Gv
theorem GD {n:Nat} {g:Glob} {t nm:B} (hno:uN g=false) (hn:bV nm=true) (hq: ∀r,FG r→ ∃q,t.data.toList++r=nm.data.toList++q∧HN q) (h: ∀r,FG r→ ∀s,At s (t.data.toList++r)→GO (gatomsE s) r g):GR n g t:=by
 have fh:FH t.data.toList:=by
  obtain⟨q,e,_⟩:=hq [41] (P9 []).1
  obtain⟨d,w,ew,hd⟩:=rK hn
  rw[ew] at e
  cases hl:t.data.toList with
  | nil=>
    rw[hl] at e
    simp at e
    exact absurd hd (by rw[←e.1];decide)
  | cons d' q'=>
    rw[hl] at e
    simp at e
    exact⟨d',q',rfl, .inr (.inr (by rw[e.1];exact hd))⟩
 refine PV hno fh fun m hm r hr s hs=> ?_
 obtain⟨m,rfl⟩: ∃j,m=j+1:=⟨m -1,by omega⟩
 obtain⟨q,e,hq⟩:=hq r hr
 have hx:Lx (t.data.toList++r) 2 nm q:=by rw[e];exact fE hn hq
 show GO (gnotE (fa m) (gorE (fa m)) s) r g
 unfold gnotE
 refine(cu hs hx _ (.inl (by decide))).bind fun s1 h1=> ?_
 simp only
 rw[if_neg (by decide)]
 refine(cu h1 hx _ (.inl (by decide))).bind fun s2 h2=> ?_
 simp only
 rw[if_neg (by decide)]
 exact h r hr s2 h2
theorem uB {n:Nat} {g:Glob} {t w:B} {x:List UInt8} (hno:uN g=false) (hw:Cg g.op=some w) (ha:bV g.a=true) (el:t.data.toList=w.data.toList++40:: (g.a.data.toList++ (x++ [41]))) (hx: ∀r,HN (x++41::r))
 (h: ∀r s,At s (x++41::r)→GO (argsE s g.op g.a) (41::r) g):GR n g t:=by
 have el2: ∀r,t.data.toList++r=w.data.toList++40:: (g.a.data.toList++ (x++41::r)):=fun r=> by rw[el];simp
 refine GD hno (P7 hw).1 (fun r hr=> ⟨_,el2 r,fy (by decide)⟩) fun r hr s hs=> ?_
 rw[el2] at hs
 exact R8 hw ha (hx r) (h r) s hs
theorem WZ {n:B} (h:n∈Ny):bV n=true:=by
 have: ∀n∈Ny,bV n=true:=by decide
 exact this n h
theorem Ry {a v nm:B} {f:Bool} (ha:Mg a) (hnm:bV nm=true) (hv: (34:UInt8) ∉v.data.toList) {r:List UInt8} (hr:FG r) {s:Rdr} (hs:At s (a.data.toList++46:: (nm.data.toList++61::34:: (v.data.toList++34:: (m5 f++r))))):GO (gatomsE s) r ⟨2,a,E0,nm,E0,v,f,0,0, [], []⟩:=by
 have hhs:HS (m5 f++r):=by
  cases f
  ·exact hr.2.1
  ·exact yd (by decide)
 unfold gatomsE
 refine(cI hs (fE ha.1 (fy (by decide)))).bind fun s1 h1=> ?_
 simp only
 rw[ha.2,if_neg (by decide)]
 unfold GE
 refine(db h1 (show Lx _ 5 ⟨#[46]⟩ (nm.data.toList++61::34:: (v.data.toList++34:: (m5 f++r))) from rfl)).bind fun s2 h2=> ?_
 refine(cI h2 (fE hnm (fy (by decide)))).bind fun s3 h3=> ?_
 refine(db h3 (show Lx _ 5 ⟨#[61]⟩ (34:: (v.data.toList++34:: (m5 f++r))) from rfl)).bind fun s4 h4=> ?_
 have e1:Lx (34:: (v.data.toList++34:: (m5 f++r))) 4 v (m5 f++r):=CD hv hhs
 rw[fm h4 e1,if_neg (by decide)]
 refine(cI h4 e1).bind fun s5 h5=> ?_
 rw[cm]
 cases f with
 | true=> exact(ct h5 (show Lx _ 5 ⟨#[37,99]⟩ r from rfl)).bind fun s6 h6=> .ok h6
 | false=> exact(hM h5 hr.2.2).bind fun s6 h6=> .ok h6
theorem OQ {a b g nm:B} (ha:Mg a) (hb:bV b=true) (hg:bV g=true) (hnm:bV nm=true) {r:List UInt8} (hr:FG r) {s:Rdr} (hs:At s (a.data.toList++46:: (nm.data.toList++61:: (b.data.toList++46:: (g.data.toList++r))))):GO (gatomsE s) r ⟨3,a,b,nm,g,E0,false,0,0, [], []⟩:=by
 unfold gatomsE
 refine(cI hs (fE ha.1 (fy (by decide)))).bind fun s1 h1=> ?_
 simp only
 rw[ha.2,if_neg (by decide)]
 unfold GE
 refine(db h1 (show Lx _ 5 ⟨#[46]⟩ (nm.data.toList++61:: (b.data.toList++46:: (g.data.toList++r))) from rfl)).bind fun s2 h2=> ?_
 refine(cI h2 (fE hnm (fy (by decide)))).bind fun s3 h3=> ?_
 refine(db h3 (show Lx _ 5 ⟨#[61]⟩ (b.data.toList++46:: (g.data.toList++r)) from rfl)).bind fun s4 h4=> ?_
 have e1:Lx (b.data.toList++46:: (g.data.toList++r)) 2 b (46:: (g.data.toList++r)):=fE hb (fy (by decide))
 rw[if_pos (fm h4 e1)]
 refine(cI h4 e1).bind fun s5 h5=> ?_
 refine(db h5 (show Lx _ 5 ⟨#[46]⟩ (g.data.toList++r) from rfl)).bind fun s6 h6=> ?_
 rw[cm]
 exact(cI h6 (fE hg hr.1)).bind fun s7 h7=> .ok h7
theorem n0 {g:Glob} {t:B} (h:fj g=some t): ∃w n r,Cg g.op=some w∧kP g=some n∧gp g.args=some r∧t.data.toList=w.data.toList++40:: (g.a.data.toList++ (((if g.op≠1∧g.op≠10 then 44::g.b.data.toList else[]) ++ (n.data.toList++ ((if g.op=5∨g.op=9 then 44::g.name.data.toList else[]) ++r.data.toList))) ++ [41])):=by
 unfold fj at h
 obtain⟨w,hw,h⟩:=Option.bind_eq_some_iff.1 h
 obtain⟨n,hn,h⟩:=Option.bind_eq_some_iff.1 h
 split at h
 ·cases h
 obtain⟨r,hr,h⟩:=Option.map_eq_some_iff.1 h
 refine⟨w,n,r,hw,hn,hr,?_⟩
 rw[←h]
 split <;> split <;> simp[f9,E0]
theorem nM {g:Glob} {n:B} (h:kP g=some n): ((g.op=4∨g.op=10)∧ ∃d e,mb g.mn=some d∧mb g.mx=some e∧n.data.toList=44:: (d.data.toList++44::e.data.toList))∨(¬ (g.op=4∨g.op=10)∧n=E0):=by
 unfold kP at h
 split at h
 ·rename_i ho
  obtain⟨d,hd,h⟩:=Option.bind_eq_some_iff.1 h
  obtain⟨e,he,h⟩:=Option.map_eq_some_iff.1 h
  exact .inl ⟨ho,d,e,hd,he,by rw[←h];simp[f9]⟩
 ·rename_i ho
  exact .inr ⟨ho,(Option.some.inj h).symm⟩
end Go.Gv

namespace Go.Gv
theorem RM {lb:List B} (hlb: ∀l∈lb,Mg l): ∀ {n:Nat} {g:Glob},GG lb n g→ ∀k t,aX k g=some t→GR n g t:=by
 have wordN:bV t_word=true:=by decide
 intro n g h
 induction h with
 | bound n a h1=>
   intro k t ht
   obtain⟨k,rfl⟩: ∃j,k=j+1:=by cases k with | zero=> cases ht | succ j=> exact⟨j,rfl⟩
   rw[aX,cH _ (by simp)] at ht
   obtain⟨w,m,r,hw,hm,hr,el⟩:=n0 ht
   rcases nM hm with⟨h2,_⟩ | ⟨_,rfl⟩
   ·simp at h2
   obtain rfl:=Option.some.inj hr
   refine uB (x:= []) rfl hw (hlb a h1).1 (by rw[el];simp[E0]) (fun r=> fy (by decide)) fun r s hs=> ?_
   unfold argsE
   rw[if_pos rfl]
   exact .ok hs
 | val n a v f h1 h2=>
   intro k t ht
   obtain⟨k,rfl⟩: ∃j,k=j+1:=by cases k with | zero=> cases ht | succ j=> exact⟨j,rfl⟩
   rw[aX,ka,if_pos rfl] at ht
   obtain⟨u,hu,ht⟩:=Option.map_eq_some_iff.1 ht
   obtain⟨h34,hl⟩:=ED hu
   have el: ∀r,t.data.toList++r=a.data.toList++46:: (t_word.data.toList++61::34:: (v.data.toList++34:: (m5 f++r))):=fun r=> by
    rw[←ht]
    simp[f9,hl]
   refine GD rfl (hlb a h1).1 (fun r hr=> ⟨_,el r,fy (by decide)⟩) fun r hr s hs=> ?_
   rw[el] at hs
   exact Ry (hlb a h1) wordN h34 hr hs
 | same n a b g h1 h2 h3=>
   intro k t ht
   obtain⟨k,rfl⟩: ∃j,k=j+1:=by cases k with | zero=> cases ht | succ j=> exact⟨j,rfl⟩
   rw[aX,ka,if_neg (by decide: ¬ (3:Int)=2),if_pos rfl] at ht
   obtain rfl:=Option.some.inj ht
   have el: ∀r,(((((((a++ ⟨#[46]⟩) ++t_word) ++ ⟨#[61]⟩) ++b) ++ ⟨#[46]⟩) ++g:B)).data.toList++r=a.data.toList++46:: (t_word.data.toList++61:: (b.data.toList++46:: (g.data.toList++r))):=fun r=> by simp[f9]
   refine GD rfl (hlb a h1).1 (fun r hr=> ⟨_,el r,fy (by decide)⟩) fun r hr s hs=> ?_
   simp only at hs
   rw[el] at hs
   exact OQ (hlb a h1) (hlb b h2).1 (D8 h3).1 wordN hr hs
 | dist n a b mn mx h1 h2 h3 h4 h5 h6=>
   intro k t ht
   obtain⟨k,rfl⟩: ∃j,k=j+1:=by cases k with | zero=> cases ht | succ j=> exact⟨j,rfl⟩
   rw[aX,cH _ (by simp)] at ht
   obtain⟨w,m,r,hw,hm,hr,el⟩:=n0 ht
   obtain rfl:=Option.some.inj hr
   rcases nM hm with⟨_,d,e,hd,he,em⟩ | ⟨h2,_⟩
   ·simp only at hd he
    refine uB (x:=44:: (b.data.toList++44:: (d.data.toList++44::e.data.toList))) rfl hw (hlb a h1).1 (by rw[el,em];simp[E0]) (fun r=> fy (by decide)) fun r s hs=> ?_
    have hs:At s (44:: (b.data.toList++44:: (d.data.toList++44:: (e.data.toList++41::r)))):=by simpa using hs
    simp only
    unfold argsE
    rw[if_neg (by decide),if_neg (by decide)]
    refine(qH (hlb b h2).1 (fy (by decide)) hs).bind fun s1 g1=> ?_
    simp only
    rw[if_pos trivial]
    refine(db g1 (show Lx _ 5 ⟨#[44]⟩ (d.data.toList++44:: (e.data.toList++41::r)) from rfl)).bind fun s2 g2=> ?_
    refine(I7 (by omega) (by omega) hd (.inl rfl) g2).bind fun s3 g3=> ?_
    refine(db g3 (show Lx _ 5 ⟨#[44]⟩ (e.data.toList++41::r) from rfl)).bind fun s4 g4=> ?_
    rw[cm]
    exact(I7 (by omega) (by omega) he (.inr rfl) g4).bind fun s5 g5=> .ok g5
   ·simp at h2
 | reg n a b t' h1 h2 h3=>
   intro k t ht
   obtain⟨k,rfl⟩: ∃j,k=j+1:=by cases k with | zero=> cases ht | succ j=> exact⟨j,rfl⟩
   rw[aX,cH _ (by simp)] at ht
   obtain⟨w,m,r,hw,hm,hr,el⟩:=n0 ht
   obtain rfl:=Option.some.inj hr
   rcases nM hm with⟨h4,_⟩ | ⟨_,rfl⟩
   ·simp at h4
   refine uB (x:=44:: (b.data.toList++44::t'.data.toList)) rfl hw (hlb a h1).1 (by rw[el];simp[E0]) (fun r=> fy (by decide)) fun r s hs=> ?_
   have hs:At s (44:: (b.data.toList++44:: (t'.data.toList++41::r))):=by simpa using hs
   simp only
   unfold argsE
   rw[if_neg (by decide),if_neg (by decide)]
   refine(qH (hlb b h2).1 (fy (by decide)) hs).bind fun s1 g1=> ?_
   simp only
   rw[if_neg (by decide),if_pos (by decide),cm]
   exact(qH (Ak h3) (fy (by decide)) g1).bind fun s2 g2=> .ok g2
 | head n op a b ho h1 h2=>
   intro k t ht
   obtain⟨k,rfl⟩: ∃j,k=j+1:=by cases k with | zero=> cases ht | succ j=> exact⟨j,rfl⟩
   rw[aX,cH _ (by simp only;omega)] at ht
   obtain⟨w,m,r,hw,hm,hr,el⟩:=n0 ht
   obtain rfl:=Option.some.inj hr
   rcases nM hm with⟨h4,_⟩ | ⟨_,rfl⟩
   ·simp only at h4
    omega
   have n12: ¬op=12:=by omega
   have n13: ¬op=13:=by omega
   refine uB (x:=44::b.data.toList) (by simp[uN,n12,n13]) hw (hlb a h1).1 ?_ (fun r=> fy (by decide)) fun r s hs=> ?_
   ·rw[el]
    have e1:op≠1∧op≠10:=by omega
    have e2: ¬ (op=5∨op=9):=by omega
    simp[E0,e1,e2]
   have hs:At s (44:: (b.data.toList++41::r)):=by simpa using hs
   simp only
   unfold argsE
   rw[if_neg (by omega),if_neg (by omega)]
   refine(qH (hlb b h2).1 (fy (by decide)) hs).bind fun s1 g1=> ?_
   simp only
   rw[if_neg (by omega),if_neg (by omega),if_neg (by omega)]
   exact .ok g1
 | path n a b l h1 h2 h3 h4=>
   intro k t ht
   obtain⟨k,rfl⟩: ∃j,k=j+1:=by cases k with | zero=> cases ht | succ j=> exact⟨j,rfl⟩
   rw[aX,cH _ (by simp)] at ht
   obtain⟨w,m,r,hw,hm,hr,el⟩:=n0 ht
   rcases nM hm with⟨h5,_⟩ | ⟨_,rfl⟩
   ·simp at h5
   have hnr: ∀q,HN (r.data.toList++41::q):=fun q=> by
    cases l with
    | nil=>
      obtain rfl:=Option.some.inj hr
      exact fy (by decide)
    | cons b l=>
      have hr:gp (b::l)=some r:=hr
      rw[gp] at hr
      obtain⟨u2,_,hr⟩:=Option.bind_eq_some_iff.1 hr
      obtain⟨w2,_,hr⟩:=Option.map_eq_some_iff.1 hr
      rw[←hr,f9,f9,List.append_assoc,List.append_assoc]
      exact fy (by decide)
   refine uB (x:=44:: (b.data.toList++r.data.toList)) rfl hw (hlb a h1).1 (by rw[el];simp[E0]) (fun r=> fy (by decide)) fun q s hs=> ?_
   have hs:At s (44:: (b.data.toList++ (r.data.toList++41::q))):=by simpa using hs
   simp only
   unfold argsE
   rw[if_neg (by decide),if_neg (by decide)]
   refine(qH (hlb b h2).1 (hnr q) hs).bind fun s1 g1=> ?_
   simp only
   rw[if_neg (by decide),if_neg (by decide),if_pos trivial,cm]
   exact(Si h4 hr 500 (by omega) [] q s1 g1).bind fun s2 g2=> .ok g2
 | node n a b t' h1 h2 h3=>
   intro k t ht
   obtain⟨k,rfl⟩: ∃j,k=j+1:=by cases k with | zero=> cases ht | succ j=> exact⟨j,rfl⟩
   rw[aX,cH _ (by simp)] at ht
   obtain⟨w,m,r,hw,hm,hr,el⟩:=n0 ht
   obtain rfl:=Option.some.inj hr
   rcases nM hm with⟨h4,_⟩ | ⟨_,rfl⟩
   ·simp at h4
   refine uB (x:=44:: (b.data.toList++44::t'.data.toList)) rfl hw (hlb a h1).1 (by rw[el];simp[E0]) (fun r=> fy (by decide)) fun r s hs=> ?_
   have hs:At s (44:: (b.data.toList++44:: (t'.data.toList++41::r))):=by simpa using hs
   simp only
   unfold argsE
   rw[if_neg (by decide),if_neg (by decide)]
   refine(qH (hlb b h2).1 (fy (by decide)) hs).bind fun s1 g1=> ?_
   simp only
   rw[if_neg (by decide),if_pos (by decide),cm]
   exact(qH (WZ h3) (fy (by decide)) g1).bind fun s2 g2=> .ok g2
 | depth n a mn mx h1 h3 h4 h5 h6=>
   intro k t ht
   obtain⟨k,rfl⟩: ∃j,k=j+1:=by cases k with | zero=> cases ht | succ j=> exact⟨j,rfl⟩
   rw[aX,cH _ (by simp)] at ht
   obtain⟨w,m,r,hw,hm,hr,el⟩:=n0 ht
   obtain rfl:=Option.some.inj hr
   rcases nM hm with⟨_,d,e,hd,he,em⟩ | ⟨h2,_⟩
   ·simp only at hd he
    refine uB (x:=44:: (d.data.toList++44::e.data.toList)) rfl hw (hlb a h1).1 (by rw[el,em];simp[E0]) (fun r=> fy (by decide)) fun r s hs=> ?_
    have hs:At s (44:: (d.data.toList++44:: (e.data.toList++41::r))):=by simpa using hs
    simp only
    unfold argsE
    rw[if_neg (by decide),if_pos rfl]
    refine(db hs (show Lx _ 5 ⟨#[44]⟩ (d.data.toList++44:: (e.data.toList++41::r)) from rfl)).bind fun s2 g2=> ?_
    refine(KU (by omega) (by omega) hd (.inl rfl) g2).bind fun s3 g3=> ?_
    refine(db g3 (show Lx _ 5 ⟨#[44]⟩ (e.data.toList++41::r) from rfl)).bind fun s4 g4=> ?_
    rw[cm]
    exact(KU (by omega) (by omega) he (.inr rfl) g4).bind fun s5 g5=> .ok g5
   ·simp at h2
 | not n c h ih=>
   intro k t ht
   obtain⟨k,rfl⟩: ∃j,k=j+1:=by cases k with | zero=> cases ht | succ j=> exact⟨j,rfl⟩
   rw[aX,ka,if_neg (by decide: ¬ (11:Int)=2),if_neg (by decide: ¬ (11:Int)=3),if_pos rfl] at ht
   obtain⟨u,hu,ht⟩:=Option.map_eq_some_iff.1 ht
   have ih:=ih k u hu
   have el:t.data.toList=33:: (eX (uN c) u).data.toList:=by
    rw[←ht,f9]
    rfl
   refine PV rfl (by rw[el];exact⟨33,_,rfl, .inl rfl⟩) fun m hm r hr s hs=> ?_
   obtain⟨m,rfl⟩: ∃j,m=j+1:=⟨m -1,by omega⟩
   rw[el] at hs
   show GO (gnotE (fa m) (gorE (fa m)) s) r _
   unfold gnotE
   refine(ct hs (XQ (P8 ih.fh) r)).bind fun s1 h1=> ?_
   simp only
   rw[if_pos trivial,cm]
   exact(ih.unit m (by omega) r hr s1 h1).bind fun s2 h2=> .ok h2
 | two n op a b ho h1 h2 ih1 ih2=>
   intro k t ht
   obtain⟨k,rfl⟩: ∃j,k=j+1:=by cases k with | zero=> cases ht | succ j=> exact⟨j,rfl⟩
   rw[aX,ka,if_neg (by omega: ¬op=2),if_neg (by omega: ¬op=3),if_neg (by omega: ¬op=11),if_pos ho] at ht
   obtain⟨u,v,hu,hv,el⟩:=X8 ht
   simp only at el
   have ia:=ih1 k u hu
   have ib:=ih2 k v hv
   have fh:FH t.data.toList:=by
    obtain⟨d,q,e,h⟩:=P8 (p:=gd op a) ia.fh
    rw[el,e]
    exact⟨d,_,rfl,h⟩
   have sep: ∀c l,c=38∨c=124→FG (32::c::32::l):=fun c l hc=> by
    refine⟨fy (by decide),yd (by decide),lX ?_⟩
    rcases hc with rfl | rfl <;> exact bI (by decide) (by decide)
   rcases ho with rfl | rfl
   ·have pa: ∀x:Glob,gd 12 x=uN x:=fun x=> by unfold gd uN;rw[Bool.or_comm];rfl
    have es: (kI ((12:Int)=12)).data.toList= [32,38,32]:=rfl
    rw[pa,pa,es] at el
    have conj: ∀m,n < m→ ∀r,qeq r→ ∀s,At s (t.data.toList++r)→GO (gandE (fa m) s) r ⟨12,E0,E0,E0,E0,E0,false,0,0, [], [a,b]⟩:=fun m hm r hr s hs=> by
     rw[el] at hs
     have hs:At s ((eX (uN a) u).data.toList++32::38::32:: ((eX (uN b) v).data.toList++r)):=by simpa using hs
     exact UF (ia.unit m hm _ (sep _ _ (.inl rfl)) s hs) rfl (fun s' hs'=> ib.unit m hm r hr.1 s' (CU hs')) hr.2
    have disj: ∀m,n < m→ ∀r,qaK r→ ∀s,At s (t.data.toList++r)→GO (gorE (fa m) s) r ⟨12,E0,E0,E0,E0,E0,false,0,0, [], [a,b]⟩:=fun m hm r hr s hs=> P1 (conj m hm r ⟨hr.1,hr.2.1⟩ s hs) hr.2.2
    refine⟨fh,fun m hm r hr s hs=> ?_,fun _ m hm=> conj m (by omega),fun m hm=> disj m (by omega)⟩
    obtain⟨m,rfl⟩: ∃j,m=j+1:=⟨m -1,by omega⟩
    refine GB (t:=t) (disj m (by omega)) r s ?_
    have hs:At s ((eX true t).data.toList++r):=hs
    rw[gQ,if_pos rfl] at hs
    simpa using hs
   ·have part: ∀ (x:Glob) (w:B),GR n x w→ ∀m,n < m→ ∀r,qeq r→ ∀s,At s ((eX (gd 13 x) w).data.toList++r)→GO (gandE (fa m) s) r x:=fun x w hx m hm r hr s hs=> by
     by_cases h8:x.op=13
     ·refine MG (hx.unit m hm r hr.1 s ?_) hr.2
      have e:gd 13 x=uN x:=by simp[gd,uN,h8]
      rw[←e]
      exact hs
     ·have e:gd 13 x=false:=by simp[gd,h8]
      rw[e,gQ] at hs
      exact hx.conj h8 m hm r hr s hs
    have es: (kI ((13:Int)=12)).data.toList= [32,124,32]:=rfl
    rw[es] at el
    have disj: ∀m,n < m→ ∀r,qaK r→ ∀s,At s (t.data.toList++r)→GO (gorE (fa m) s) r ⟨13,E0,E0,E0,E0,E0,false,0,0, [], [a,b]⟩:=fun m hm r hr s hs=> by
     rw[el] at hs
     have hs:At s ((eX (gd 13 a) u).data.toList++32::124::32:: ((eX (gd 13 b) v).data.toList++r)):=by simpa using hs
     exact Xm (part a u ia m hm _ ⟨sep _ _ (.inr rfl),lX (bI (by decide) (by decide))⟩ s hs) rfl (fun s' hs'=> part b v ib m hm r ⟨hr.1,hr.2.1⟩ s' (CU hs')) hr.2.2
    refine⟨fh,fun m hm r hr s hs=> ?_,fun h=> absurd rfl h,fun m hm=> disj m (by omega)⟩
    obtain⟨m,rfl⟩: ∃j,m=j+1:=⟨m -1,by omega⟩
    refine GB (t:=t) (disj m (by omega)) r s ?_
    have hs:At s ((eX true t).data.toList++r):=hs
    rw[gQ,if_pos rfl] at hs
    simpa using hs
end Go.Gv

namespace Go.Gv
inductive FQ:List UInt8→Prop
 | nil:FQ []
 | glob (q:List UInt8):FQ (32::58::58::32::q)
 | neg (w:B) (q:List UInt8):bV w=true→FQ (32::33:: (w.data.toList++q))
 | word (w x:B) (q:List UInt8):w∈tailL→bV x=true→HN q→FQ (32:: (w.data.toList++32:: (x.data.toList++q)))
theorem JO {w:B} (h:w∈tailL):bV w=true:=by
 have: ∀w∈tailL,bV w=true:=by decide
 exact this w h
theorem sk {r:List UInt8} (h:FQ r) {c:UInt8} {x:B} (hx:x.data.toList.head?=some c) (h1:pW ⟨c.toNat⟩=false) (h2:c≠58) (h3:c≠33):iA r x:=by
 have ne: ∀d:UInt8,d≠c→x.data.toList.head?≠some d:=fun d h e=> by rw[hx] at e;cases e;exact h rfl
 cases h with
 | nil=> exact⟨0,E0, [],rfl, .inl (by decide)⟩
 | glob q=> exact lX (bI (by decide) (ne _ (Ne.symm h2)))
 | neg w q hw=> exact lX (bI (by decide) (ne _ (Ne.symm h3)))
 | word w x q hw=>
   obtain⟨a,v,e,ha⟩:=rK (JO hw)
   rw[e]
   exact lX (bI (OE ha) (ne a (BS ha h1)))
theorem xj {r:List UInt8} (h:FQ r):HN r∧HS r:=by
 cases h with
 | nil=>
   refine⟨?_,?_⟩
   ·intro d h
    cases h
   ·intro d h
    cases h
 | glob q=> exact⟨fy (by decide),yd (by decide)⟩
 | neg w q hw=> exact⟨fy (by decide),yd (by decide)⟩
 | word w x q hw=> exact⟨fy (by decide),yd (by decide)⟩
theorem Yd {r:List UInt8} (h:FQ r):FI r:=
 ⟨⟨(xj h).2,sk h rfl (by decide) (by decide) (by decide)⟩,sk h rfl (by decide) (by decide) (by decide),sk h rfl (by decide) (by decide) (by decide),sk h rfl (by decide) (by decide) (by decide),sk h rfl (by decide) (by decide) (by decide)⟩
theorem Zs {r:List UInt8} (h:FQ r):qaK r:=
 ⟨⟨(xj h).1,(xj h).2,sk h rfl (by decide) (by decide) (by decide)⟩,sk h rfl (by decide) (by decide) (by decide),sk h rfl (by decide) (by decide) (by decide)⟩
theorem Yc {r:List UInt8} (h:FQ r):NB false r:=by
 cases h with
 | nil=>
   intro s hs
   have e1:Lx [] 0 E0 []:=rfl
   unfold jI
   rw[fm hs e1,if_neg (by decide),if_neg (by decide),ci hs e1,ci hs e1,ci hs e1,ci hs e1]
   rfl
 | glob q=> exact D9 (show Lx _ 5 ⟨#[58,58]⟩ (32::q) from rfl) (by decide) (by decide) (by decide) (by decide)
 | neg w q hw=>
   obtain⟨a,v,e,ha⟩:=rK hw
   have hf:FH w.data.toList:=⟨a,v,e, .inr (.inr ha)⟩
   exact D9 (show Lx _ 5 ⟨#[33]⟩ (w.data.toList++q) from XQ hf q) (by decide) (by decide) (by decide) (by decide)
 | word w x q hw hx hq=>
   intro s hs
   have e1:Lx (w.data.toList++32:: (x.data.toList++q)) 2 w (32:: (x.data.toList++q)):=fE (JO hw) (fy (by decide))
   have hs:=CU hs
   have e2:Lx (32:: (x.data.toList++q)) 2 x q:=by
    unfold Lx
    rw[yn]
    exact fE hx hq
   have e:=Eb (s:=s.txt) (i:=s.fin.toNat) (by have:=hs.rng;omega)
   rw[hs.rest,e1,e2] at e
   have t1: (ge s.txt s.fin.toNat).1.kind=2:=e.1
   unfold jI IM
   rw[fm hs e1,if_neg (by decide),if_pos rfl,if_pos hs.rng,Option.map_some,nh hs e1,t1]
   have hany:tailL.any (fun z=> decide (w=z))=true:=List.any_eq_true.2 ⟨w,hw,by simp⟩
   rw[hany]
   rfl
theorem UG {t:B} (ht:t.size≤100000):GO1 (ir ⟨t,0,0,E0,0⟩) t.data.toList:=by
 have e:=Eb (s:=t) (i:=0) (Nat.zero_le _)
 have g:=wo (s:=t) (i:=0) (Nat.zero_le _)
 have hr:tD t 0=t.data.toList:=rfl
 rw[hr] at e
 unfold ir wm
 rw[if_pos ⟨⟨Int.le_refl _,Int.natCast_nonneg _⟩,ht⟩]
 exact⟨_,rfl,e.1,e.2.1,⟨⟨g.2.2.1,g.2.2.2.1⟩,ht⟩,e.2.2⟩
theorem N4 {st:Int} {t:B} (h0:0≤st) (h1:st < 4) (h:xc st=some t): (st=0∧t.data.toList= [])∨ ∃w:B,bV w=true∧strategyL.any (fun z=> decide (w=z))=true∧B6 strategyL w=st∧t.data.toList=32:: (strategyW.data.toList++32:: (w.data.toList++ [])):=by
 have:st=0∨st=1∨st=2∨st=3:=by omega
 rcases this with rfl | rfl | rfl | rfl
 ·obtain rfl:=Option.some.inj h
  exact .inl ⟨rfl,rfl⟩
 ·obtain rfl:=Option.some.inj h
  exact .inr ⟨⟨#[115,104,111,114,116,101,115,116]⟩,by decide,by decide,by decide,rfl⟩
 ·obtain rfl:=Option.some.inj h
  exact .inr ⟨⟨#[108,111,110,103,101,115,116]⟩,by decide,by decide,by decide,rfl⟩
 ·obtain rfl:=Option.some.inj h
  exact .inr ⟨⟨#[116,114,97,100,105,116,105,111,110,97,108]⟩,by decide,by decide,by decide,rfl⟩
theorem Ut:HN []:=fun d h=> by cases h
theorem N6 {st:Int} {t:B} (h0:0≤st) (h1:st < 4) (h:xc st=some t):FQ t.data.toList∧iA t.data.toList ⟨#[58,58]⟩∧ ∀s,At s t.data.toList→(ox s ⟨#[33]⟩ || rB s filterL)=false∧GO (ti s) [] st:=by
 rcases N4 h0 h1 h with⟨rfl,e⟩ | ⟨w,k1,k2,k3,e⟩
 ·rw[e]
  have e1:Lx [] 0 E0 []:=rfl
  refine⟨.nil,⟨0,E0, [],rfl, .inl (by decide)⟩,fun s hs=> ⟨?_,?_⟩⟩
  ·rw[ci hs e1,nh hs e1]
   rfl
  ·unfold ti
   rw[nh hs e1,if_neg (by decide)]
   exact .ok hs
 ·rw[e]
  have hw:strategyW∈tailL:=by decide
  have e1:Lx (32:: (strategyW.data.toList++32:: (w.data.toList++ []))) 2 strategyW (32:: (w.data.toList++ [])):=by
   unfold Lx
   rw[yn]
   exact fE (JO hw) (fy (by decide))
  have e2:Lx (32:: (w.data.toList++ [])) 2 w []:=by
   unfold Lx
   rw[yn]
   exact fE k1 Ut
  refine⟨.word strategyW w [] hw k1 Ut,⟨_,_,_,e1, .inl (by decide)⟩,fun s hs=> ⟨?_,?_⟩⟩
  ·rw[ci hs e1,nh hs e1]
   decide
  ·unfold ti
   rw[nh hs e1,if_pos (by decide)]
   refine(uj hs e1).bind fun s1 g1=> ?_
   rw[nh g1 e2,k2,if_pos (by decide),cm]
   refine(cI g1 e2).bind fun s2 g2=> ?_
   simp only[k3]
   exact .ok g2
theorem RP {op:Int} (h:op=1∨op=2∨op=3): ∃w:B,(if 0 < op then filterL[op.toNat]? else none)=some w∧bV w=true∧w∈tailL∧filterL.any (fun z=> decide (w=z))=true∧B6 filterL w=op:=by
 rcases h with rfl | rfl | rfl
 ·exact⟨⟨#[119,105,116,104,105,110]⟩,rfl,by decide,by decide,by decide,by decide⟩
 ·exact⟨⟨#[99,111,110,116,97,105,110,105,110,103]⟩,rfl,by decide,by decide,by decide,by decide⟩
 ·exact⟨⟨#[111,118,101,114,108,97,112,112,105,110,103]⟩,rfl,by decide,by decide,by decide,by decide⟩
theorem O4 {fs:List Filt} (hl:fs.length≤1) (hf: ∀f∈fs,GF f) {t:B} (ht:kV fs=some t) {r:List UInt8} (hr:FQ r) (hr1:iA r ⟨#[58,58]⟩) (hr2: ∀s,At s r→(ox s ⟨#[33]⟩ || rB s filterL)=false):
 FQ (t.data.toList++r)∧iA (t.data.toList++r) ⟨#[58,58]⟩∧ ∀s,At s (t.data.toList++r)→GO (eu 500 s []) r fs:=by
 match fs,hl with
 | [],_=>
   obtain rfl:=Option.some.inj ht
   refine⟨hr,hr1,fun s hs=> ?_⟩
   show GO (eu (499+1) s []) r []
   rw[eu,hr2 s hs,if_neg (by decide)]
   exact .ok hs
 | [⟨op,neg,reg⟩],_=>
   obtain⟨h1,h2⟩:=hf ⟨op,neg,reg⟩ (by simp)
   simp only at h1 h2
   obtain⟨w,e,k1,k2,k3,k4⟩:=RP h1
   have k5:=Ak h2
   have k6: ¬op < 1:=by omega
   rw[kV,KZ] at ht
   simp only at ht
   rw[e,kV] at ht
   obtain rfl:=Option.some.inj ht
   cases neg with
   | false=>
     have el: (((((if false=true then(⟨#[32]⟩:B) ++ ⟨#[33]⟩ else⟨#[32]⟩) ++w) ++ ⟨#[32]⟩) ++reg) ++E0).data.toList++r=32:: (w.data.toList++32:: (reg.data.toList++r)):=by simp[f9,E0]
     rw[el]
     have e1:Lx (32:: (w.data.toList++32:: (reg.data.toList++r))) 2 w (32:: (reg.data.toList++r)):=by
      unfold Lx
      rw[yn]
      exact fE k1 (fy (by decide))
     have e2:Lx (32:: (reg.data.toList++r)) 2 reg r:=by
      unfold Lx
      rw[yn]
      exact fE k5 (xj hr).1
     refine⟨.word w reg r k2 k5 (xj hr).1,⟨_,_,_,e1, .inl (by decide)⟩,fun s hs=> ?_⟩
     show GO (eu (498+1+1) s []) r _
     rw[eu,ci hs e1,nh hs e1,k3,if_pos (by simp)]
     unfold MU
     refine GO.bind (l:=r) (y:=⟨op,false,reg⟩) ?_ fun s9 g9=> ?_
     ·refine(cu hs e1 _ (.inl (by decide))).bind fun s1 g1=> ?_
      simp only
      rw[fm g1 e1,Ef g1 e1,k4,if_neg (by simp[k6])]
      refine(uj g1 e1).bind fun s2 g2=> ?_
      rw[cm]
      exact(cI g2 e2).bind fun s3 g3=> .ok g3
     ·rw[eu,hr2 s9 g9,if_neg (by decide)]
      exact .ok g9
   | true=>
     have el: (((((if true=true then(⟨#[32]⟩:B) ++ ⟨#[33]⟩ else⟨#[32]⟩) ++w) ++ ⟨#[32]⟩) ++reg) ++E0).data.toList++r=32::33:: (w.data.toList++32:: (reg.data.toList++r)):=by simp[f9,E0]
     rw[el]
     obtain⟨a,v,ew,ha⟩:=rK k1
     have hfh:FH w.data.toList:=⟨a,v,ew, .inr (.inr ha)⟩
     have e0:Lx (32::33:: (w.data.toList++32:: (reg.data.toList++r))) 5 ⟨#[33]⟩ (w.data.toList++32:: (reg.data.toList++r)):=XQ hfh _
     have e1:Lx (w.data.toList++32:: (reg.data.toList++r)) 2 w (32:: (reg.data.toList++r)):=fE k1 (fy (by decide))
     have e2:Lx (32:: (reg.data.toList++r)) 2 reg r:=by
      unfold Lx
      rw[yn]
      exact fE k5 (xj hr).1
     refine⟨.neg w _ k1,⟨_,_,_,e0, .inr (by decide)⟩,fun s hs=> ?_⟩
     show GO (eu (498+1+1) s []) r _
     rw[eu,ci hs e0,nh hs e0,if_pos (by simp)]
     unfold MU
     refine GO.bind (l:=r) (y:=⟨op,true,reg⟩) ?_ fun s9 g9=> ?_
     ·refine(ct hs e0).bind fun s1 g1=> ?_
      simp only
      rw[fm g1 e1,Ef g1 e1,k4,if_neg (by simp[k6])]
      refine(uj g1 e1).bind fun s2 g2=> ?_
      rw[cm]
      exact(cI g2 e2).bind fun s3 g3=> .ok g3
     ·rw[eu,hr2 s9 g9,if_neg (by decide)]
      exact .ok g9
theorem Uh {l:B} (h:l=qaz∨l=qay):Mg l:=by
 rcases h with rfl | rfl
 ·exact⟨by decide,by decide⟩
 ·exact⟨by decide,by decide⟩
theorem qbE {lb:List B} {n:Nat} {g:Glob} (h:GG lb n g):g.op≠0:=by
 cases h with
 | head n op a b ho=> rcases ho with rfl | rfl <;> simp
 | two n op a b ho=> rcases ho with rfl | rfl <;> simp
 | _=> simp
theorem L4 {n:Nat} {q:Qry} (h:GQ n q) (hn:n≤5) {t:B} (ht:Dv q=some t) (hl:t.size≤400):sd t=some (q,0,0):=by
 obtain⟨p,g,fs,st⟩:=q
 obtain⟨lb,hlb,hw⟩:=h.lab
 have hc:=h.cond
 have hg:=h.glob
 have hfs:=h.filts
 have hst:=h.strat
 simp only at hw hc hg hfs hst
 unfold Dv at ht
 simp only at ht
 obtain⟨tp,hp,ht⟩:=Option.bind_eq_some_iff.1 ht
 obtain⟨tg,htg,ht⟩:=Option.bind_eq_some_iff.1 ht
 obtain⟨tf,htf,ht⟩:=Option.bind_eq_some_iff.1 ht
 obtain⟨ts,hts,ht⟩:=Option.map_eq_some_iff.1 ht
 have bl: ∀l∈jE p [],Mg l:=fun l hl=> by
  rcases Qp n p hw [] l hl with h1 | h1
  ·cases h1
  ·exact Uh (hlb l h1)
 have pr:=TB (fun l hl=> (Uh (hlb l hl)).1) (fun l hl=> (bl l hl).1) n p hw (by omega) hc 10 tp hp
 obtain⟨f1,f2,f3⟩:=N6 hst.1 hst.2 hts
 obtain⟨f4,f5,f6⟩:=O4 hfs.1 hfs.2 htf f1 f2 fun s hs=> (f3 s hs).1
 have el:t.data.toList=tp.data.toList++ (tg.data.toList++ (tf.data.toList++ts.data.toList)):=by
  rw[←ht]
  simp[f9]
 have rest: ∀ (g':Glob) s,At s (tf.data.toList++ts.data.toList)→GO ((eu 500 s []).bind fun f=> (ti f.1).bind fun z=> if z.1.kind=0 then .ok (z.1,(⟨p,g',f.2,z.2⟩:Qry)) else .err (z.1.pos,3)) [] ⟨p,g',fs,st⟩:=fun g' s hs=> by
  refine(f6 s hs).bind fun s1 g1=> ?_
  refine((f3 s1 g1).2).bind fun s2 g2=> ?_
  simp only
  rw[if_pos (fm g2 (show Lx [] 0 E0 [] from rfl))]
  exact .ok g2
 have hq:GO (queryE 500 ⟨t,0,0,E0,0⟩) [] ⟨p,g,fs,st⟩:=by
  unfold queryE
  refine(UG (by omega)).bind fun s0 g0=> ?_
  rw[el] at g0
  by_cases h0:g.op=0
  ·have hge:g=GlobE:=hg.resolve_right fun h=> qbE h h0
   have htg0:tg=E0:=by
    unfold zr at htg
    rw[if_pos h0] at htg
    exact(Option.some.inj htg).symm
   subst htg0
   have g0:At s0 (tp.data.toList++ (tf.data.toList++ts.data.toList)):=g0
   refine GO.bind (show GO (iy (499+1) s0 false) _ p from pr.disj 499 (by omega) _ false (Yd f4) (Yc f4) (sk f4 rfl (by decide) (by decide) (by decide)) s0 g0) fun s1 g1=> ?_
   refine(hM g1 f5).bind fun s2 g2=> ?_
   simp only
   rw[if_neg (by decide),hge]
   exact rest GlobE s2 g2
  ·obtain⟨u,hu,htg2⟩: ∃u,aX 10 g=some u∧⟨#[32,58,58,32]⟩ ++u=tg:=by
    unfold zr at htg
    rw[if_neg h0] at htg
    exact Option.map_eq_some_iff.1 htg
   have hgg:GG (jE p []) 2 g:=hg.resolve_left fun h=> by rw[h] at h0;exact h0 rfl
   have gr:=RM bl hgg 10 u hu
   have etg:tg.data.toList=32::58::58::32::u.data.toList:=by rw[←htg2,f9];rfl
   rw[etg] at g0
   have fq:FQ (32::58::58::32:: (u.data.toList++ (tf.data.toList++ts.data.toList))):= .glob _
   refine GO.bind (show GO (iy (499+1) s0 false) _ p from pr.disj 499 (by omega) _ false (Yd fq) (Yc fq) (sk fq rfl (by decide) (by decide) (by decide)) s0 g0) fun s1 g1=> ?_
   refine(ct g1 (show Lx _ 5 ⟨#[58,58]⟩ (32:: (u.data.toList++ (tf.data.toList++ts.data.toList))) from rfl)).bind fun s2 g2=> ?_
   simp only
   rw[if_pos trivial]
   refine(gr.disj 500 (by omega) _ (Zs f4) s2 (CU g2)).bind fun s3 g3=> ?_
   exact rest g s3 g3
 obtain⟨s',e,_⟩:=hq
 unfold sd
 rw[if_neg (by omega),e]
end Go.Gv
