/- A part of the framework and of the walks: V27 V31 W102 W103. -/
import Derived.Test.YtaiffcbkmgfklaaGreatDoorGt43
import Derived.Test.YtaiffcbkmgfklaaGreatDoorGt42
import Derived.Test.YtaiffcbkmgfklaaGreatDoorGt39
import Derived.Test.YtaiffcbkmgfklaaGreatDoorGt33
set_option linter.unusedSimpArgs false
set_option linter.unusedVariables false
set_option maxRecDepth 100000

namespace Go.Gv
theorem dv (a b:B): (a++b).size=a.size+b.size:=ByteArray.size_append
def M1 (k:Nat) (l:List B):Bool:=l.all fun s=> decide (s.size≤k) && !(s.data.toList.contains 34)
theorem Wp {k:Nat} {l:List B} (h:M1 k l=true) {s:B} (hs:s∈l):lE s=some ((⟨#[34]⟩ ++s) ++ ⟨#[34]⟩)∧s.size≤k:=by
 have:=List.all_eq_true.1 h s hs
 simp at this
 refine⟨?_,this.1⟩
 unfold lE
 rw[if_neg]
 intro h2
 exact this.2 (Array.mem_toList_iff.1 h2)
theorem BO {k:Nat} {l:List B} (h:M1 k l=true) {s:B} (hs:s∈l): ∃t,lE s=some t∧t.size≤k+2:=by
 obtain⟨h1,h2⟩:=Wp h hs
 refine⟨_,h1,?_⟩
 rw[dv,dv]
 show 1+s.size+1≤k+2
 omega
theorem HA {k:Nat} {l:List B} (h:M1 k l=true) {s:B} (hs:s∈l) (f:Bool): ∃t,gP (s,f)=some t∧t.size≤k+4:=by
 obtain⟨t,h1,h2⟩:=BO h hs
 unfold gP
 rw[h1]
 refine⟨_,rfl,?_⟩
 cases f
 ·show t.size≤_;omega
 ·show(t++ ⟨#[37,99]⟩).size≤_
  rw[dv]
  show t.size+2≤_
  omega
theorem pL {k:Nat} {l:List B} (h:l.all (fun s=> decide (s.size≤k))=true) {s:B} (hs:s∈l):s.size≤k:=by
 have:=List.all_eq_true.1 h s hs
 simpa using this
theorem um (b:Bool) (t:B): (sR b t).size≤t.size+2:=by
 unfold sR
 split
 ·rw[dv,dv]
  show 1+t.size+1≤_
  omega
 ·omega
theorem D6 {α:Type} {sep:B} {par:α→Bool} {f:α→Option B} {a b:α} {t u:B} (h1:f a=some t) (h2:f b=some u):
 ∃r,gG sep par f 0 [a,b]=some r∧r.size≤t.size+u.size+sep.size+4:=by
 unfold gG gG gG
 rw[h1,h2]
 refine⟨_,rfl,?_⟩
 have:=um (par a) t
 have:=um (par b) u
 have e0:E0.size=0:=rfl
 simp only[dv,if_pos,if_neg (show ¬0+1=0 by omega),e0]
 omega
theorem PP {lb:List B} (hlb: ∀l∈lb,l.size≤1) {c:Cond} (h:GA lb c) (f:Cond→Option B): ∃t,l5 f c=some t∧t.size≤40:=by
 cases h with
 | val n v fo h1 h2=>
   obtain⟨t,e1,e2⟩:=HA (k:=4) (by decide) h2 fo
   have hn:=pL (k:=4) (by decide) h1
   refine⟨_,by rw[l5,if_neg (by decide: ¬ (2:Int)=1),if_pos rfl,e1];rfl,?_⟩
   simp only
   split
   ·omega
   ·simp only[dv,show(⟨#[61]⟩:B).size=1 from rfl];omega
 | feat v h=>
   obtain⟨t,e1,e2⟩:=BO (k:=1) (by decide) h
   refine⟨_,by rw[l5,if_neg (by decide: ¬ (3:Int)=1),if_neg (by decide: ¬ (3:Int)=2),if_pos rfl,e1];rfl,?_⟩
   simp only[dv,show(⟨#[32,99,111,110,116,97,105,110,115,32]⟩:B).size=10 from rfl,show t_feat.size=4 from rfl];omega
 | same n l a h1 h2 h3=>
   have hn:=pL (k:=4) (by decide) h1
   have ha:=pL (k:=4) (by decide) h3
   have hl:=hlb l h2
   refine⟨_,by rw[l5,if_neg (by decide: ¬ (4:Int)=1),if_neg (by decide: ¬ (4:Int)=2),if_neg (by decide: ¬ (4:Int)=3),if_pos rfl],?_⟩
   simp only[dv,show(⟨#[61]⟩:B).size=1 from rfl,show(⟨#[46]⟩:B).size=1 from rfl];omega
 | reg n h=>
   have hn:=pL (k:=4) (by decide) h
   refine⟨_,by rw[l5,if_neg (by decide: ¬ (5:Int)=1),if_neg (by decide: ¬ (5:Int)=2),if_neg (by decide: ¬ (5:Int)=3),if_neg (by decide: ¬ (5:Int)=4),if_pos rfl,Ur,if_pos rfl],?_⟩
   simp only[dv,show(⟨#[105,110,40]⟩:B).size=3 from rfl,show(⟨#[41]⟩:B).size=1 from rfl];omega
 | regk n v h1 h2=>
   have hn:=pL (k:=4) (by decide) h1
   obtain⟨t,e1,e2⟩:=BO (k:=1) (by decide) h2
   refine⟨_,by rw[l5,if_neg (by decide: ¬ (5:Int)=1),if_neg (by decide: ¬ (5:Int)=2),if_neg (by decide: ¬ (5:Int)=3),if_neg (by decide: ¬ (5:Int)=4),if_pos rfl,Ur,if_neg (show ¬t_n=E0 by decide),e1];rfl,?_⟩
   simp only[dv,show(⟨#[105,110,40]⟩:B).size=3 from rfl,show(⟨#[41]⟩:B).size=1 from rfl,show(⟨#[44]⟩:B).size=1 from rfl,show(⟨#[61]⟩:B).size=1 from rfl,show t_n.size=1 from rfl];omega
theorem r7 {lb:List B} (hlb: ∀l∈lb,l.size≤1): ∀ {n:Nat} {c:Cond},GI lb n c→ ∀m,n < m→ ∃t,cU m c=some t∧t.size+7≤50*2^n
 | _,_, .atom n c h,m,hm=> by
   obtain⟨m,rfl⟩: ∃k,m=k+1:=⟨m -1,by omega⟩
   obtain⟨t,h1,h2⟩:=PP hlb h (cU m)
   have:=Nat.one_le_two_pow (n:=n)
   exact⟨t,h1,by omega⟩
 | _,_, .not n k h,m,hm=> by
   obtain⟨m,rfl⟩: ∃k,m=k+1:=⟨m -1,by omega⟩
   obtain⟨t,h1,h2⟩:=r7 hlb h m (by omega)
   have:=Nat.one_le_two_pow (n:=n)
   refine⟨⟨#[33]⟩ ++sR (decide (k.op=7) || decide (k.op=8)) t,by rw[cU,l5,if_neg (by decide: ¬ (6:Int)=1),if_neg (by decide: ¬ (6:Int)=2),if_neg (by decide: ¬ (6:Int)=3),if_neg (by decide: ¬ (6:Int)=4),if_neg (by decide: ¬ (6:Int)=5),if_pos rfl];simp only[WK,h1,Option.map_some],?_⟩
   have:=um (decide (k.op=7) || decide (k.op=8)) t
   rw[dv,show(⟨#[33]⟩:B).size=1 from rfl,Nat.pow_succ]
   omega
 | _,_, .two n op a b ho h1 h2,m,hm=> by
   obtain⟨m,rfl⟩: ∃k,m=k+1:=⟨m -1,by omega⟩
   obtain⟨t,e1,e2⟩:=r7 hlb h1 m (by omega)
   obtain⟨u,e3,e4⟩:=r7 hlb h2 m (by omega)
   obtain⟨r,e5,e6⟩:=D6 (sep:=o6 (op=7)) (par:=Bm op) e1 e3
   have hs: (o6 (op=7)).size=3:=by unfold o6;split <;> rfl
   refine⟨r,by rw[cU,l5,if_neg (by omega: ¬op=1),if_neg (by omega: ¬op=2),if_neg (by omega: ¬op=3),if_neg (by omega: ¬op=4),if_neg (by omega: ¬op=5),if_neg (by omega: ¬op=6),if_pos ho,e5],?_⟩
   rw[Nat.pow_succ]
   omega
theorem PO {lb:List B} (hlb: ∀l∈lb,l.size≤1) {n:Nat} {c:Cond} (h:GC lb n c) (m:Nat) (hm:n < m): ∃t,cU m c=some t∧t.size+7≤50*2^n:=by
 have:=Nat.one_le_two_pow (n:=n)
 obtain⟨m,rfl⟩: ∃k,m=k+1:=⟨m -1,by omega⟩
 cases h with
 | any=> exact⟨⟨#[91,93]⟩,rfl,by show 2+7≤_;omega⟩
 | top v f h=>
   obtain⟨t,e1,e2⟩:=HA (k:=4) (by decide) h f
   refine⟨t,by rw[cU,l5,if_neg (by decide: ¬ (2:Int)=1),if_pos rfl,e1];rfl,by omega⟩
 | inner c h=> exact r7 hlb h _ hm
theorem PX (x:Cond) (t:B): (ez x t).size≤t.size+2:=by
 unfold ez
 split
 ·omega
 ·simp only[dv,show(⟨#[91]⟩:B).size=1 from rfl,show(⟨#[93]⟩:B).size=1 from rfl];omega
theorem QP {r:Int×Int} (h:r∈Reps): ∃u,QQ r.1 r.2=some u∧u.size≤5:=by
 have:Reps.all (fun r=> match QQ r.1 r.2 with | some u=> decide (u.size≤5) | none=> false)=true:=by decide
 have:=List.all_eq_true.1 this r h
 cases hs:QQ r.1 r.2 with
 | none=> rw[hs] at this;cases this
 | some u=> rw[hs] at this;exact⟨u,rfl,by simpa using this⟩
theorem Pi {p:Pat} (h:p.op=1):aQ p= [p]:=by rw[bq,if_pos h]
theorem D2 {p k:Pat} (h: ¬p.op=1) (hk:k∈p.kids) {y:Pat} (hy:y∈aQ k):y∈aQ p:=by
 rw[bq,if_neg h]
 exact List.mem_flatMap.2 ⟨k,hk,hy⟩
theorem Rl {lb lb':List B} (h1: ∀l∈lb,l.size≤1) (h2: ∀l∈lb',l.size≤1): ∀n p,WP lb n p→(∀y∈aQ p,GC lb' 1 y.cond)→ ∀m,n < m→ ∃t,j8 (cU 10) m p=some t∧t.size+8≤150*2^n:=by
 refine Ca fun n p hp ih hc m hm=> ?_
 obtain⟨m,rfl⟩: ∃k,m=k+1:=⟨m -1,by omega⟩
 have hpow:=Nat.one_le_two_pow (n:=n)
 rcases th hp with(⟨g1,g2,g3,g4,g5,g6⟩ | ⟨g1,g2,g3,g4,g5,g6,g7⟩) | ⟨k,rfl,(⟨g1,g2,g3,g4,g5,g6,a,b,g7,ga,gb⟩ | ⟨g1,g2,g3,g4,g5,a,g7,ga⟩)⟩
 ·obtain⟨t,e1,e2⟩:=PO h2 (hc p (by rw[Pi g1];simp)) 10 (by omega)
  refine⟨_,by rw[j8,wh,if_pos g1,QH,e1];rfl,?_⟩
  have hb:=PX p.cond t
  have hl:p.lab.size≤1:=g2.elim (fun e=> by rw[e];exact Nat.zero_le _) (h1 _)
  simp only
  split
  ·omega
  ·simp only[dv,show(⟨#[58]⟩:B).size=1 from rfl];omega
 ·have hr:=pL (k:=4) (l:=pH) (by decide) g4
  rcases g1 with g1 | g1
  ·refine⟨_,by rw[j8,wh,if_neg (by omega),if_pos g1],?_⟩
   simp only[dv,show(⟨#[60]⟩:B).size=1 from rfl,show(⟨#[62]⟩:B).size=1 from rfl];omega
  ·refine⟨_,by rw[j8,wh,if_neg (by omega),if_neg (by omega),if_pos g1],?_⟩
   simp only[dv,show(⟨#[60,47]⟩:B).size=2 from rfl,show(⟨#[62]⟩:B).size=1 from rfl];omega
 ·obtain⟨m1,e1,_,a1⟩:=ih a (by rw[g7];simp)
  obtain⟨m2,e2,_,a2⟩:=ih b (by rw[g7];simp)
  have hn1: ¬p.op=1:=by omega
  obtain⟨t,q1,q2⟩:=a1 (fun y hy=> hc y (D2 hn1 (by rw[g7];simp) hy)) m (by omega)
  obtain⟨u,q3,q4⟩:=a2 (fun y hy=> hc y (D2 hn1 (by rw[g7];simp) hy)) m (by omega)
  obtain⟨r,q5,q6⟩:=D6 (sep:=HL p.op) (par:=zE p.op) q1 q3
  have hs: (HL p.op).size≤3:=by unfold HL;split <;> decide
  refine⟨r,by rw[j8,wh,if_neg hn1,if_neg (by omega),if_neg (by omega),if_neg (by omega),if_pos g1,g7,q5],?_⟩
  have e1:m1=k:=by omega
  have e2:m2=k:=by omega
  subst e1;subst e2
  rw[Nat.pow_succ]
  omega
 ·obtain⟨m1,e1,_,a1⟩:=ih a (by rw[g7];simp)
  have hn1: ¬p.op=1:=by omega
  obtain⟨t,q1,q2⟩:=a1 (fun y hy=> hc y (D2 hn1 (by rw[g7];simp) hy)) m (by omega)
  obtain⟨u,q3,q4⟩:=QP g5
  refine⟨sR (decide (a.op=5) || decide (a.op=4)) t++u,by rw[j8,wh,if_neg hn1,if_neg (by omega),if_neg (by omega),if_pos g1,g7];simp only[WI,q1,Option.bind_some];simp only at q3;rw[q3];rfl,?_⟩
  have e1:m1=k:=by omega
  subst e1
  have:=um (decide (a.op=5) || decide (a.op=4)) t
  rw[dv,Nat.pow_succ]
  omega
theorem KR {n:Int} (h0: -10 < n) (h1:n < 10): ∃t,xa n=some t∧t.size≤2:=by
 unfold xa
 split
 ·exact⟨_,rfl,Nat.le_succ _⟩
 ·rw[if_pos (by omega)]
  exact⟨_,rfl,by rw[dv];exact Nat.le_refl _⟩
theorem P3 {l:List B} (h: ∀x∈l,x∈Tk): ∃t,ja l=some t∧t.size≤6*l.length:=by
 induction l with
 | nil=> exact⟨E0,rfl,Nat.zero_le _⟩
 | cons a l ih=>
   obtain⟨t,e1,e2⟩:=ih fun x hx=> h x (by simp[hx])
   obtain⟨u,e3,e4⟩:=BO (k:=3) (by decide) (h a (by simp))
   refine⟨_,by rw[ja,e3,e1];rfl,?_⟩
   simp only[dv,show(⟨#[44]⟩:B).size=1 from rfl,List.length_cons]
   omega
theorem UW {op:Int} (h:op=1∨op=4∨op=5∨op=6∨op=7∨op=8∨op=9∨op=10): ∃t,Qa op=some t∧t.size≤8:=by
 rcases h with rfl | rfl | rfl | rfl | rfl | rfl | rfl | rfl <;> exact⟨_,rfl,by decide⟩
theorem mg {g:Glob} (h:g.op=1∨g.op=4∨g.op=5∨g.op=6∨g.op=7∨g.op=8∨g.op=9∨g.op=10) (ha:g.a.size≤1) (hb:g.b.size≤1) (hn:g.name.size≤4) (h1: -10 < g.mn) (h2:g.mn < 10) (h3: -10 < g.mx) (h4:g.mx < 10)
 (h5: ¬ (g.op≠8∧g.args≠ [])) (h6:g.args.length≤2) (h7: ∀x∈g.args,x∈Tk): ∃t,qR g=some t∧t.size≤50:=by
 obtain⟨w,e1,e2⟩:=UW h
 obtain⟨r,e3,e4⟩:=P3 h7
 obtain⟨n,e5,e6⟩: ∃n,uj g=some n∧n.size≤6:=by
  unfold uj
  split
  ·obtain⟨t,q1,q2⟩:=KR h1 h2
   obtain⟨u,q3,q4⟩:=KR h3 h4
   rw[q1,q3]
   refine⟨_,rfl,?_⟩
   simp only[dv,show(⟨#[44]⟩:B).size=1 from rfl];omega
  ·exact⟨E0,rfl,Nat.zero_le _⟩
 refine⟨_,by rw[qR,e1,e5];simp only[Option.bind_some];rw[if_neg h5,e3];rfl,?_⟩
 have e0:E0.size=0:=rfl
 simp only[dv,show(⟨#[40]⟩:B).size=1 from rfl,show(⟨#[41]⟩:B).size=1 from rfl]
 split <;> split <;> simp only[dv,show(⟨#[44]⟩:B).size=1 from rfl,e0] <;> omega
theorem dR (f:Glob→Option B) {g:Glob} (h:g.op=1∨g.op=4∨g.op=5∨g.op=6∨g.op=7∨g.op=8∨g.op=9∨g.op=10):oj f g=qR g:=by
 rw[oj,if_neg (by omega),if_neg (by omega),if_neg (by omega),if_neg (by omega)]
theorem Px {lb:List B} (hlb: ∀l∈lb,l.size≤1): ∀ {n:Nat} {g:Glob},GG lb n g→ ∀m,n < m→ ∃t,bc m g=some t∧t.size+7≤70*2^n:=by
 intro n g h
 induction h with
 | not n k h ih=>
   intro m hm
   obtain⟨m,rfl⟩: ∃k,m=k+1:=⟨m -1,by omega⟩
   obtain⟨t,h1,h2⟩:=ih m (by omega)
   have:=Nat.one_le_two_pow (n:=n)
   refine⟨⟨#[33]⟩ ++sR (decide (k.op=12) || decide (k.op=13)) t,by rw[bc,oj,if_neg (by decide: ¬ (11:Int)=2),if_neg (by decide: ¬ (11:Int)=3),if_pos rfl];simp only[WJ,h1,Option.map_some],?_⟩
   have:=um (decide (k.op=12) || decide (k.op=13)) t
   rw[dv,show(⟨#[33]⟩:B).size=1 from rfl,Nat.pow_succ]
   omega
 | two n op a b ho h1 h2 ih1 ih2=>
   intro m hm
   obtain⟨m,rfl⟩: ∃k,m=k+1:=⟨m -1,by omega⟩
   obtain⟨t,e1,e2⟩:=ih1 m (by omega)
   obtain⟨u,e3,e4⟩:=ih2 m (by omega)
   obtain⟨r,e5,e6⟩:=D6 (sep:=o6 (op=12)) (par:=qF op) e1 e3
   have hs: (o6 (op=12)).size=3:=by unfold o6;split <;> rfl
   refine⟨r,by rw[bc,oj,if_neg (by omega: ¬op=2),if_neg (by omega: ¬op=3),if_neg (by omega: ¬op=11),if_pos ho,e5],?_⟩
   rw[Nat.pow_succ]
   omega
 | val n a v f h1 h2=>
   intro m hm
   obtain⟨m,rfl⟩: ∃k,m=k+1:=⟨m -1,by omega⟩
   obtain⟨t,e1,e2⟩:=HA (k:=3) (by decide) h2 f
   have:=Nat.one_le_two_pow (n:=n)
   have:=hlb a h1
   refine⟨_,by rw[bc,oj,if_pos rfl,e1];rfl,?_⟩
   simp only[dv,show(⟨#[46]⟩:B).size=1 from rfl,show(⟨#[61]⟩:B).size=1 from rfl,show t_word.size=4 from rfl];omega
 | same n a b g h1 h2 h3=>
   intro m hm
   obtain⟨m,rfl⟩: ∃k,m=k+1:=⟨m -1,by omega⟩
   have:=Nat.one_le_two_pow (n:=n)
   have:=hlb a h1
   have:=hlb b h2
   have:=pL (k:=4) (by decide) h3
   refine⟨_,by rw[bc,oj,if_neg (by decide: ¬ (3:Int)=2),if_pos rfl],?_⟩
   simp only[dv,show(⟨#[46]⟩:B).size=1 from rfl,show(⟨#[61]⟩:B).size=1 from rfl,show t_word.size=4 from rfl];omega
 | bound n a h=>
   intro m hm
   obtain⟨m,rfl⟩: ∃k,m=k+1:=⟨m -1,by omega⟩
   have:=Nat.one_le_two_pow (n:=n)
   obtain⟨t,e1,e2⟩:=mg (g:=⟨1,a,E0,E0,E0,E0,false,0,0, [], []⟩) (by simp) (hlb a h) (Nat.zero_le _) (Nat.zero_le _) (by simp) (by simp) (by simp) (by simp) (by simp) (by simp) (by simp)
   exact⟨t,by rw[bc,dR _ (by simp),e1],by omega⟩
 | dist n a b mn mx h1 h2 h3 h4 h5 h6=>
   intro m hm
   obtain⟨m,rfl⟩: ∃k,m=k+1:=⟨m -1,by omega⟩
   have:=Nat.one_le_two_pow (n:=n)
   obtain⟨t,e1,e2⟩:=mg (g:=⟨4,a,b,E0,E0,E0,false,mn,mx, [], []⟩) (by simp) (hlb a h1) (hlb b h2) (Nat.zero_le _) (by simp only;omega) (by simp only;omega) (by simp only;omega) (by simp only;omega) (by simp) (by simp) (by simp)
   exact⟨t,by rw[bc,dR _ (by simp),e1],by omega⟩
 | reg n a b t h1 h2 h3=>
   intro m hm
   obtain⟨m,rfl⟩: ∃k,m=k+1:=⟨m -1,by omega⟩
   have:=Nat.one_le_two_pow (n:=n)
   obtain⟨t,e1,e2⟩:=mg (g:=⟨5,a,b,t,E0,E0,false,0,0, [], []⟩) (by simp) (hlb a h1) (hlb b h2) (pL (k:=4) (l:=pH) (by decide) h3) (by simp) (by simp) (by simp) (by simp) (by simp) (by simp) (by simp)
   exact⟨t,by rw[bc,dR _ (by simp),e1],by omega⟩
 | head n op a b ho h1 h2=>
   intro m hm
   obtain⟨m,rfl⟩: ∃k,m=k+1:=⟨m -1,by omega⟩
   have:=Nat.one_le_two_pow (n:=n)
   obtain⟨t,e1,e2⟩:=mg (g:=⟨op,a,b,E0,E0,E0,false,0,0, [], []⟩) (by simp only;omega) (hlb a h1) (hlb b h2) (Nat.zero_le _) (by simp) (by simp) (by simp) (by simp) (by simp) (by simp) (by simp)
   exact⟨t,by rw[bc,dR _ (by simp only;omega),e1],by omega⟩
 | path n a b l h1 h2 h3 h4=>
   intro m hm
   obtain⟨m,rfl⟩: ∃k,m=k+1:=⟨m -1,by omega⟩
   have:=Nat.one_le_two_pow (n:=n)
   obtain⟨t,e1,e2⟩:=mg (g:=⟨8,a,b,E0,E0,E0,false,0,0,l, []⟩) (by simp) (hlb a h1) (hlb b h2) (Nat.zero_le _) (by simp) (by simp) (by simp) (by simp) (by simp) h3 h4
   exact⟨t,by rw[bc,dR _ (by simp),e1],by omega⟩
 | node n a b t h1 h2 h3=>
   intro m hm
   obtain⟨m,rfl⟩: ∃k,m=k+1:=⟨m -1,by omega⟩
   have:=Nat.one_le_two_pow (n:=n)
   obtain⟨t,e1,e2⟩:=mg (g:=⟨9,a,b,t,E0,E0,false,0,0, [], []⟩) (by simp) (hlb a h1) (hlb b h2) (pL (k:=4) (l:=Tt) (by decide) h3) (by simp) (by simp) (by simp) (by simp) (by simp) (by simp) (by simp)
   exact⟨t,by rw[bc,dR _ (by simp),e1],by omega⟩
 | depth n a mn mx h1 h3 h4 h5 h6=>
   intro m hm
   obtain⟨m,rfl⟩: ∃k,m=k+1:=⟨m -1,by omega⟩
   have:=Nat.one_le_two_pow (n:=n)
   obtain⟨t,e1,e2⟩:=mg (g:=⟨10,a,E0,E0,E0,E0,false,mn,mx, [], []⟩) (by simp) (hlb a h1) (Nat.zero_le _) (Nat.zero_le _) (by simp only;omega) (by simp only;omega) (by simp only;omega) (by simp only;omega) (by simp) (by simp) (by simp)
   exact⟨t,by rw[bc,dR _ (by simp),e1],by omega⟩
theorem Sn {f:jK} (h:GF f): ∃t,PB f=some t∧t.size≤20:=by
 obtain⟨op,neg,reg⟩:=f
 obtain⟨h1,h2⟩:=h
 have hr:=pL (k:=4) (l:=pH) (by decide) h2
 simp only at h1 hr
 have: ∃w,(if 0 < op then filterL[op.toNat]? else none)=some w∧w.size≤11:=by rcases h1 with rfl | rfl | rfl <;> exact⟨_,rfl,by decide⟩
 obtain⟨w,e1,e2⟩:=this
 refine⟨_,by rw[PB];simp only;rw[e1];rfl,?_⟩
 simp only
 split <;> simp only[dv,show(⟨#[32]⟩:B).size=1 from rfl,show(⟨#[33]⟩:B).size=1 from rfl] <;> omega
theorem PA {l:List jK} (h: ∀f∈l,GF f): ∃t,qO l=some t∧t.size≤20*l.length:=by
 induction l with
 | nil=> exact⟨E0,rfl,Nat.zero_le _⟩
 | cons a l ih=>
   obtain⟨t,e1,e2⟩:=ih fun x hx=> h x (by simp[hx])
   obtain⟨u,e3,e4⟩:=Sn (h a (by simp))
   refine⟨_,by rw[qO,e3,e1];rfl,?_⟩
   simp only[dv,List.length_cons]
   omega
theorem LU {s:Int} (h0:0≤s) (h1:s < 4): ∃t,Gq s=some t∧t.size≤30:=by
 have:s=0∨s=1∨s=2∨s=3:=by omega
 rcases this with rfl | rfl | rfl | rfl <;> exact⟨_,rfl,by decide⟩
theorem Kl {lb:List B} (h:Hg lb): ∀l∈lb,l.size≤1:=fun l hl=> by rcases h l hl with rfl | rfl <;> decide
theorem Lc {lb:List B} {n:Nat} {p:Pat} (h:Hg lb) (hw:WP lb n p): ∀l∈i7 p [],l.size≤1:=fun l hl=> by
 rcases Vh n p hw [] l hl with h1 | h1
 ·cases h1
 ·exact Kl h l h1
theorem JV {n:Nat} {q:Qry} (h:GQ n q) (hn:n≤5): ∃t,OT q=some t∧t.size≤6000:=by
 obtain⟨lb,hlb,hw⟩:=h.lab
 obtain⟨t,e1,e2⟩:=Rl (Kl hlb) (Lc hlb hw) n _ hw h.cond 10 (by omega)
 have hp:2^n≤2^5:=Nat.pow_le_pow_right (by omega) hn
 obtain⟨g,e3,e4⟩: ∃g,Ji q.glob=some g∧g.size≤300:=by
  unfold Ji
  rcases h.glob with hg | hg
  ·rw[hg];exact⟨E0,rfl,by decide⟩
  ·obtain⟨g,q1,q2⟩:=Px (Lc hlb hw) hg 10 (by omega)
   split
   ·exact⟨E0,rfl,by decide⟩
   ·rw[q1]
    refine⟨_,rfl,?_⟩
    rw[dv,show(⟨#[32,58,58,32]⟩:B).size=4 from rfl]
    omega
 obtain⟨f,e5,e6⟩:=PA h.filts.2
 obtain⟨s,e7,e8⟩:=LU h.strat.1 h.strat.2
 have:=h.filts.1
 refine⟨_,by rw[OT,e1,e3,e5,e7];rfl,?_⟩
 simp only[dv]
 omega
end Go.Gv

namespace Go.Gv
mutual
def pW:Cond→Nat | .mk _ _ _ _ _ _ ks=> jk ks+1
def jk:List Cond→Nat | []=> 0 | k::ks=> pW k+jk ks
end
mutual
def wT:Glob→Nat | .mk _ _ _ _ _ _ _ _ _ _ ks=> ku ks+1
def ku:List Glob→Nat | []=> 0 | k::ks=> wT k+ku ks
end
theorem Nz (x:Cond):pW x=jk x.kids+1:=by cases x;rw[pW]
theorem UG (x:Glob):wT x=ku x.kids+1:=by cases x;rw[wT]
theorem IM (x:Glob):ka x=kw x.kids+1:=by cases x;rw[ka]
theorem zW: ∀ (a b:List Cond),jk (a++b)=jk a+jk b
 | [],b=> by rw[List.nil_append,jk];omega
 | k::a,b=> by rw[List.cons_append,jk,jk,zW a b];omega
theorem zV: ∀ (a b:List Glob),ku (a++b)=ku a+ku b
 | [],b=> by rw[List.nil_append,ku];omega
 | k::a,b=> by rw[List.cons_append,ku,ku,zV a b];omega
theorem Hb: ∀ (a b:List Cond),jn (a++b)=max (jn a) (jn b)
 | [],b=> by rw[List.nil_append,jn];omega
 | k::a,b=> by rw[List.cons_append,jn,jn,Hb a b];omega
theorem GY: ∀ (a b:List Glob),kw (a++b)=max (kw a) (kw b)
 | [],b=> by rw[List.nil_append,kw];omega
 | k::a,b=> by rw[List.cons_append,kw,kw,GY a b];omega
theorem Pc {ks:List Cond} {k:Nat} {x:Cond} (h:ks[k]?=some x):jk (ks.take (k+1))=jk (ks.take k) +pW x∧jn (ks.take (k+1))=max (jn (ks.take k)) (hJ x)∧jk (ks.take (k+1))≤jk ks:=by
 have e:=cp h
 refine⟨by rw[e,zW,jk,jk];omega,by rw[e,Hb,jn,jn];omega,?_⟩
 conv=> rhs;rw[←List.take_append_drop (k+1) ks,zW]
 omega
theorem Pb {ks:List Glob} {k:Nat} {x:Glob} (h:ks[k]?=some x):ku (ks.take (k+1))=ku (ks.take k) +wT x∧kw (ks.take (k+1))=max (kw (ks.take k)) (ka x)∧ku (ks.take (k+1))≤ku ks:=by
 have e:=cp h
 refine⟨by rw[e,zV,ku,ku];omega,by rw[e,GY,kw,kw];omega,?_⟩
 conv=> rhs;rw[←List.take_append_drop (k+1) ks,zV]
 omega
theorem IK {lb:List B} : ∀ {n:Nat} {c:Cond},GI lb n c→pW c < 2^ (n+1)∧hJ c≤n+1
 | _,_, .atom n c h=> by
   have:=Nat.one_le_two_pow (n:=n)
   rw[Nz,vk,IL h,Nat.pow_succ]
   simp only[jk,jn]
   omega
 | _,_, .not n k h=> by
   have:=IK h
   rw[pW,hJ,Nat.pow_succ]
   simp only[jk,jn]
   omega
 | _,_, .two n op a b _ h1 h2=> by
   have:=IK h1
   have:=IK h2
   rw[pW,hJ,Nat.pow_succ]
   simp only[jk,jn]
   omega
theorem Xb {lb:List B} {n:Nat} {c:Cond} (h:GC lb n c):pW c < 2^ (n+1)∧hJ c≤n+1:=by
 have:=Nat.one_le_two_pow (n:=n)
 cases h with
 | any=> rw[pW,hJ,Nat.pow_succ];simp only[jk,jn];omega
 | top v f h=> rw[pW,hJ,Nat.pow_succ];simp only[jk,jn];omega
 | inner c h=> exact IK h
theorem Xc {lb:List B} {n:Nat} {c k:Cond} (h:GC lb n c) (hk:k∈c.kids): ∃m,m≤n∧GC lb m k:=by
 cases h with
 | any=> cases hk
 | top v f h=> cases hk
 | inner c h=>
   cases h with
   | atom n c h=> rw[IL h] at hk;cases hk
   | not n k' h=>
     simp at hk
     subst hk
     exact⟨n,by omega, .inner _ h⟩
   | two n op a b ho h1 h2=>
     simp at hk
     rcases hk with rfl | rfl
     ·exact⟨n,by omega, .inner _ h1⟩
     ·exact⟨n,by omega, .inner _ h2⟩
theorem WZ {lb:List B} {n:Nat} {g:Glob} (h:GG lb n g):wT g < 2^ (n+1)∧ka g≤n+1:=by
 induction h with
 | not n k h ih=> rw[wT,ka,Nat.pow_succ];simp only[ku,kw];omega
 | two n op a b ho h1 h2 ih1 ih2=> rw[wT,ka,Nat.pow_succ];simp only[ku,kw];omega
 | bound n | val n | same n | dist n | reg n | head n | path n | node n | depth n=> have:=Nat.one_le_two_pow (n:=n);rw[wT,ka,Nat.pow_succ];simp only[ku,kw];omega
theorem W0 {lb:List B} {n:Nat} {g k:Glob} (h:GG lb n g) (hk:k∈g.kids): ∃m,m≤n∧GG lb m k:=by
 cases h with
 | not n k' h=>
   simp at hk
   subst hk
   exact⟨n,by omega,h⟩
 | two n op a b ho h1 h2=>
   simp at hk
   rcases hk with rfl | rfl
   ·exact⟨n,by omega,h1⟩
   ·exact⟨n,by omega,h2⟩
 | _=> cases hk
end Go.Gv

namespace Go.Gv
open Cod (enc dec)
variable {S S0:Nat→Spc}
def nc {X:Type} (T:X→Option B) (x:X):Prop:= ∃t,T x=some t∧t.size≤o9
abbrev fj:Spc:=dt (a1 B) (nc lE) (enc (X:=B)) fun x y=> lE x=some y
theorem Y8 {s:B} (h: ¬ (34:UInt8) ∈s.data.toList) {i:Nat} {c:UInt8} (hc:s.data[i]?=some c): ¬c.toNat=34:=by
 intro e
 have:c=34:=UInt8.toNat_inj.1 e
 subst this
 exact h (List.mem_of_getElem? (by rw[Array.getElem?_toList];exact hc))
theorem UZ {s:B} {k:Nat} (h:k < s.size):s.extract 0 k++s.extract k (k+1)=s.extract 0 (k+1):=by
 rw[ByteArray.extract_append_extract]
 congr 1 <;> omega
theorem Jm:Walk r9 rq S (a1 B) (nc lE) (enc (X:=B)) fun x y=> lE x=some y:=by
 rintro s ⟨t,ht,hl⟩
 have hR:=ht
 unfold lE at ht
 by_cases hn: (34:UInt8) ∈s.data.toList
 ·rw[if_pos hn] at ht;cases ht
 rw[if_neg hn] at ht
 obtain rfl:=Option.some.inj ht
 simp only[ai,af] at hl
 simp at hl
 have hL:=mY
 simp[r9,rq]
 refine gB (X:=Nat) [0] [] (fun k=> k≤s.size) (fun k=> [(3,enc (⟨#[34]⟩ ++s.extract 0 k)),(4,enc (k:Int))]) (fun _=> []) (fun k=> s.size -k) 0 (by omega) ?_ (by simp) ?_
 ·simp
 ·intro k hk
  simp[-Bool.forall_bool, -Bool.exists_bool]
  have h34: (⟨#[34]⟩:B).size=1:=rfl
  refine fun hsz=> ⟨fun hlt=> ⟨hlt,fun c hc=> ⟨fun e=> absurd (by omega) (Y8 hn hc),fun _=> ⟨by simp only[InR];omega,by omega,by omega,by omega,by simp only[InR];omega,k+1,by omega,⟨?_,by omega⟩,by omega⟩⟩⟩,fun hge=> ⟨by omega,?_⟩⟩
  ·rw[ByteArray.append_assoc,UZ hlt]
  ·rw[hR,show k=s.size by omega,ByteArray.extract_zero_size]
abbrev cP:Spc:=dt (a2 B Bool) (nc gP) (enc (X:=B)) fun x y=> gP x=some y
theorem Ho (h1:S bd=fj):Walk mp mh S (a2 B Bool) (nc gP) (enc (X:=B)) fun x y=> gP x=some y:=by
 rintro⟨s,fo⟩ ⟨t,ht,hl⟩
 obtain⟨q,hq,ht⟩:=Option.map_eq_some_iff.1 ht
 simp only at hq ht
 have hL:=mY
 cases fo with
 | false=>
   simp at ht
   subst ht
   have hp:nc lE s:=⟨q,hq,hl⟩
   simp[mp,mh,h1,hp,hq,gP, -Bool.forall_bool, -Bool.exists_bool]
 | true=>
   simp at ht
   subst ht
   simp only[ai,af] at hl
   simp at hl
   have hp:nc lE s:=⟨q,hq,by omega⟩
   simp[mp,mh,h1,hp,hq,gP,af, -Bool.forall_bool, -Bool.exists_bool]
   omega
abbrev ca:Spc:=dt (a2 B Bool) (fun x=> x.1.size≤o9) (enc (X:=B)) fun x y=> y=sR x.2 x.1
theorem Fp:Walk ou nL S (a2 B Bool) (fun x=> x.1.size≤o9) (enc (X:=B)) fun x y=> y=sR x.2 x.1:=by
 rintro⟨s,b⟩ hl
 have hL:=mY
 simp only at hl
 simp[ou,nL,sR,af, -Bool.forall_bool, -Bool.exists_bool]
 cases b
 ·simp
 ·simp
  omega
abbrev Q7 (n:Nat):Spc:=dt (a1 Int) (fun x=> -10 < x∧x < 10∧(x < 0→2≤n)∧1≤n) (enc (X:=B)) fun x y=> xa x=some y
theorem Ft (n:Nat) (h1:S aH=Q7 n):Walk m0 mP S (a1 Int) (fun x=> -10 < x∧x < 10∧(x < 0→2≤n+1)∧1≤n+1) (enc (X:=B)) fun x y=> xa x=some y:=by
 rintro x ⟨h2,h3,h4,h5⟩
 simp[m0,mP,h1,h2,h3, -Bool.forall_bool, -Bool.exists_bool]
 refine⟨fun hx=> ⟨by simp only[InR];omega,⟨by omega,by omega,by omega⟩,fun y hy=> ?_⟩,fun hx=> ⟨by simp only[InR];omega,?_⟩⟩
 ·unfold xa at hy ⊢
  rw[if_pos (by omega)] at hy
  obtain rfl:=Option.some.inj hy
  rw[if_neg (by omega),if_pos (by omega)]
  exact⟨by show 1+1≤_;decide,rfl⟩
 ·have:x=0∨x=1∨x=2∨x=3∨x=4∨x=5∨x=6∨x=7∨x=8∨x=9:=by omega
  rcases this with rfl | rfl | rfl | rfl | rfl | rfl | rfl | rfl | rfl | rfl <;> exact⟨rfl,rfl⟩
end Go.Gv

namespace Go.Gv
open Cod (enc dec)
variable {S S0:Nat→Spc}
theorem rQ {α:Type} {sep:B} {par:α→Bool} {f:α→Option B} {i:Nat} {ks:List α} {k:α} (hx:ks[i]?=some k) {r:B} (h:gG sep par f i (ks.drop i)=some r):
 ∃t r',f k=some t∧gG sep par f (i+1) (ks.drop (i+1))=some r'∧r=((if i=0 then E0 else sep) ++sR (par k) t) ++r':=by
 have hd:ks.drop i=k::ks.drop (i+1):=dC hx
 rw[hd,gG] at h
 obtain⟨t,h1,h⟩:=Option.bind_eq_some_iff.1 h
 obtain⟨r',h2,h⟩:=Option.map_eq_some_iff.1 h
 exact⟨t,r',h1,h2,h.symm⟩
theorem wW (b:Bool) (t:B):t.size≤(sR b t).size:=by
 unfold sR
 split
 ·rw[ai,ai];omega
 ·exact Nat.le_refl _
abbrev pu (n:Nat):Spc:=dt (a1 Cond) (nc (cU n)) (enc (X:=B)) fun x y=> cU n x=some y
theorem A7 (n:Nat) (h1:S aV=cP) (h2:S bd=fj) (h3:S aO=ca) (h4:S bN=pu n):
 Walk bQ bO S (a1 Cond) (nc (cU (n+1))) (enc (X:=B)) fun x y=> cU (n+1) x=some y:=by
 rintro⟨op,name,arg,val,lab,fold,kids⟩ ⟨t,ht,hl⟩
 have hL:=mY
 have hR:=ht
 rw[cU] at ht
 unfold l5 at ht
 simp only at ht
 have fin: ∀ {u:B},u=t→cU (n+1) ⟨op,name,arg,val,lab,fold,kids⟩=some u:=fun h=> by rw[h];exact hR
 split at ht
 ·rename_i e
  subst e
  obtain rfl:=Option.some.inj ht
  simp[bQ,bO, -Bool.forall_bool, -Bool.exists_bool]
  exact fin rfl
 rename_i n1
 split at ht
 ·rename_i e
  subst e
  obtain⟨q,hq,ht⟩:=Option.map_eq_some_iff.1 ht
  by_cases hn:name=E0
  ·rw[if_pos hn] at ht
   subst ht
   subst hn
   have hp:nc gP (val,fold):=⟨q,hq,hl⟩
   simp[bQ,bO,h1,hp,hq,E0, -Bool.forall_bool, -Bool.exists_bool]
   exact fin rfl
  ·rw[if_neg hn] at ht
   subst ht
   simp only[ai,af] at hl
   simp at hl
   have hn': ¬name=⟨#[]⟩:=hn
   have hp:nc gP (val,fold):=⟨q,hq,by omega⟩
   simp[bQ,bO,h1,hp,hq,hn',af, -Bool.forall_bool, -Bool.exists_bool]
   repeat' first | exact hR | exact fin rfl | apply And.intro | omega
 rename_i n2
 split at ht
 ·rename_i e
  subst e
  obtain⟨q,hq,ht⟩:=Option.map_eq_some_iff.1 ht
  subst ht
  simp only[ai,af] at hl
  simp at hl
  have hp:nc lE val:=⟨q,hq,by omega⟩
  simp[bQ,bO,h2,hp,hq,af, -Bool.forall_bool, -Bool.exists_bool]
  repeat' first | exact hR | exact fin rfl | apply And.intro | omega
 rename_i n3
 split at ht
 ·rename_i e
  subst e
  obtain rfl:=Option.some.inj ht
  simp only[ai,af] at hl
  simp at hl
  simp[bQ,bO,af, -Bool.forall_bool, -Bool.exists_bool]
  repeat' first | exact hR | exact fin rfl | apply And.intro | omega
 rename_i n4
 split at ht
 ·rename_i e
  subst e
  unfold Ur at ht
  simp only at ht
  by_cases hn:arg=E0
  ·rw[if_pos hn] at ht
   obtain rfl:=Option.some.inj ht
   subst hn
   simp only[ai,af] at hl
   simp at hl
   simp[bQ,bO,af,E0, -Bool.forall_bool, -Bool.exists_bool]
   repeat' first | exact hR | exact fin rfl | apply And.intro | omega
  ·rw[if_neg hn] at ht
   obtain⟨q,hq,ht⟩:=Option.map_eq_some_iff.1 ht
   subst ht
   simp only[ai,af] at hl
   simp at hl
   have hn': ¬arg=⟨#[]⟩:=hn
   have hp:nc lE val:=⟨q,hq,by omega⟩
   simp[bQ,bO,h2,hp,hq,hn',af, -Bool.forall_bool, -Bool.exists_bool]
   repeat' first | exact hR | exact fin rfl | apply And.intro | omega
 rename_i n5
 split at ht
 ·rename_i e
  subst e
  unfold WK at ht
  split at ht
  ·rename_i k
   obtain⟨q,hq,ht⟩:=Option.map_eq_some_iff.1 ht
   subst ht
   have hi:=wW (decide (k.op=7) || decide (k.op=8)) q
   rw[ai,af] at hl
   simp at hl
   have hp:nc (cU n) k:=⟨q,hq,by omega⟩
   simp[bQ,bO,h3,h4,hp,hq,af, -Bool.forall_bool, -Bool.exists_bool]
   refine⟨fun h7=> ?_,fun h7=> ?_⟩
   ·have e: (decide (k.op=7) || decide (k.op=8))=decide (k.op=8):=by simp[h7]
    rw[e] at hl hR hi
    exact⟨by omega,by omega,hR⟩
   ·have e: (decide (k.op=7) || decide (k.op=8))=true:=by simp[h7]
    rw[e] at hl hR hi
    exact⟨by omega,by omega,hR⟩
  ·cases ht
 rename_i n6
 split at ht
 ·rename_i h78
  simp[bQ,bO,n1,n2,n3,n4,n5,n6, -Bool.forall_bool, -Bool.exists_bool]
  intro hkl
  have hop:o6 (op=7)=(⟨#[32]⟩ ++ ⟨#[if op=7 then 38 else 124]⟩) ++ ⟨#[32]⟩:=by rcases h78 with rfl | rfl <;> decide
  have hsz: (o6 (op=7)).size=3:=by rcases h78 with rfl | rfl <;> decide
  refine aJ (X:=B×B) [1,92] [] kids.length (fun k x=> gG (o6 (op=7)) (Bm op) (cU n) k (kids.drop k)=some x.2∧x.1++x.2=t) (fun x=> [(3,enc x.1)]) (fun _=> []) (E0,t) (by simp) (by simp) (by omega) (by simp) (by simp) ?_ (by simp[E0]) (by simp) ?_ ?_
  ·exact⟨ht,by simp[E0,dM]⟩
  ·rintro k ⟨acc,r⟩ hk ⟨q1,q2⟩
   simp only at q1 q2
   obtain⟨x,hx⟩:=cV hk
   obtain⟨_,hgx⟩:=List.getElem?_eq_some_iff.1 hx
   obtain⟨tk,r',c1,c2,rfl⟩:=rQ hx q1
   have hi:=wW (Bm op x) tk
   rw[←q2] at hl
   simp only[ai] at hl
   have hp:nc (cU n) x:=⟨tk,c1,by omega⟩
   simp[h3,h4,hk,hx,hgx,hp,c1,af, -Bool.forall_bool, -Bool.exists_bool]
   clear h1 h2 h3 h4 hop
   have hm:min (op -7+1).toNat 2 - (op -7).toNat=1:=by rcases h78 with rfl | rfl <;> rfl
   have hx7: (⟨#[32]⟩:B) ++ (⟨#[38,124]⟩:B).extract (op -7).toNat (op -7+1).toNat++ ⟨#[32]⟩=o6 (op=7):=by rcases h78 with rfl | rfl <;> decide
   rw[hm,hx7]
   have key: ∀ (b:Bool) (s0:B),b=Bm op x→s0=acc++ (if k=0 then E0 else o6 (op=7))→tk.size≤o9∧s0.size+ (sR b tk).size≤1000000000∧
    ∃y,gG (o6 (op=7)) (Bm op) (cU n) (k+1) (List.drop (k+1) kids)=some y∧s0++sR b tk++y=t:=by
    rintro b s0 rfl rfl
    refine⟨by omega,by rw[ai];omega,r',c2,?_⟩
    rw[←q2]
    simp only[ByteArray.append_assoc]
   refine⟨fun hk0=> ⟨by simp only[InR];omega,by simp only[InR];omega,by omega,by omega,by omega,by omega,by omega,?_,?_⟩,fun hk0=> ?_⟩
   ·rw[if_neg (by omega),hsz] at hl;omega
   ·have ks:=fun b e=> key b (acc++o6 (op=7)) e (by rw[if_neg (by omega)])
    simp only[ai,hsz] at ks
    exact⟨fun h8=> ⟨fun h7=> ks _ (by simp[Bm,h7,h8]),fun h7=> ks _ (by simp[Bm,h7,h8])⟩,fun h8=> ks _ (by simp[Bm,h8])⟩
   ·have ks:=fun b e=> key b acc e (by rw[if_pos hk0,E0,cD])
    exact⟨fun h8=> ⟨fun h7=> ks _ (by simp[Bm,h7,h8]),fun h7=> ks _ (by simp[Bm,h7,h8])⟩,fun h8=> ks _ (by simp[Bm,h8])⟩
  ·rintro⟨acc,r⟩ ⟨q1,q2⟩
   simp only at q1 q2
   rw[List.drop_length,gG] at q1
   obtain rfl:=Option.some.inj q1
   simp
   exact fin (by rw[←q2];simp[E0,cD])
 ·cases ht
end Go.Gv
