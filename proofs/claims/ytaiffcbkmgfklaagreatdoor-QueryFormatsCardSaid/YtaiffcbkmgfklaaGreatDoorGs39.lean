/- A part of the framework and of the walks: V27 V31 W102 W103. -/
import Derived.Test.YtaiffcbkmgfklaaGreatDoorGs38
import Derived.Test.YtaiffcbkmgfklaaGreatDoorGs37
import Derived.Test.YtaiffcbkmgfklaaGreatDoorGs31
set_option linter.unusedSimpArgs false
set_option linter.unusedVariables false
set_option maxRecDepth 100000

namespace Go.Gv
theorem eb (a b:B): (a++b).size=a.size+b.size:=ByteArray.size_append
def Pi (k:Nat) (l:List B):Bool:=l.all fun s=> decide (s.size≤k) && !(s.data.toList.contains 34)
theorem YQ {k:Nat} {l:List B} (h:Pi k l=true) {s:B} (hs:s∈l):lW s=some ((⟨#[34]⟩ ++s) ++ ⟨#[34]⟩)∧s.size≤k:=by
 have:=List.all_eq_true.1 h s hs
 simp at this
 refine⟨?_,this.1⟩
 unfold lW
 rw[if_neg]
 intro h2
 exact this.2 (Array.mem_toList_iff.1 h2)
theorem D2 {k:Nat} {l:List B} (h:Pi k l=true) {s:B} (hs:s∈l): ∃t,lW s=some t∧t.size≤k+2:=by
 obtain⟨h1,h2⟩:=YQ h hs
 refine⟨_,h1,?_⟩
 rw[eb,eb]
 show 1+s.size+1≤k+2
 omega
theorem JF {k:Nat} {l:List B} (h:Pi k l=true) {s:B} (hs:s∈l) (f:Bool): ∃t,il (s,f)=some t∧t.size≤k+4:=by
 obtain⟨t,h1,h2⟩:=D2 h hs
 unfold il
 rw[h1]
 refine⟨_,rfl,?_⟩
 cases f
 ·show t.size≤_;omega
 ·show(t++ ⟨#[37,99]⟩).size≤_
  rw[eb]
  show t.size+2≤_
  omega
theorem rU {k:Nat} {l:List B} (h:l.all (fun s=> decide (s.size≤k))=true) {s:B} (hs:s∈l):s.size≤k:=by
 have:=List.all_eq_true.1 h s hs
 simpa using this
theorem wr (b:Bool) (t:B): (eX b t).size≤t.size+2:=by
 unfold eX
 split
 ·rw[eb,eb]
  show 1+t.size+1≤_
  omega
 ·omega
theorem Gb {α:Type} {sep:B} {par:α→Bool} {f:α→Option B} {a b:α} {t u:B} (h1:f a=some t) (h2:f b=some u):
 ∃r,dn sep par f 0 [a,b]=some r∧r.size≤t.size+u.size+sep.size+4:=by
 unfold dn dn dn
 rw[h1,h2]
 refine⟨_,rfl,?_⟩
 have:=wr (par a) t
 have:=wr (par b) u
 have e0:E0.size=0:=rfl
 simp only[eb,if_pos,if_neg (show ¬0+1=0 by omega),e0]
 omega
theorem R2 {lb:List B} (hlb: ∀l∈lb,l.size≤1) {c:Cond} (h:GA lb c) (f:Cond→Option B): ∃t,gm f c=some t∧t.size≤40:=by
 cases h with
 | val n v fo h1 h2=>
   obtain⟨t,e1,e2⟩:=JF (k:=4) (by decide) h2 fo
   have hn:=rU (k:=4) (by decide) h1
   refine⟨_,by rw[gm,if_neg (by decide: ¬ (2:Int)=1),if_pos rfl,e1];rfl,?_⟩
   simp only
   split
   ·omega
   ·simp only[eb,show(⟨#[61]⟩:B).size=1 from rfl];omega
 | feat v h=>
   obtain⟨t,e1,e2⟩:=D2 (k:=1) (by decide) h
   refine⟨_,by rw[gm,if_neg (by decide: ¬ (3:Int)=1),if_neg (by decide: ¬ (3:Int)=2),if_pos rfl,e1];rfl,?_⟩
   simp only[eb,show(⟨#[32,99,111,110,116,97,105,110,115,32]⟩:B).size=10 from rfl,show t_feat.size=4 from rfl];omega
 | same n l a h1 h2 h3=>
   have hn:=rU (k:=4) (by decide) h1
   have ha:=rU (k:=4) (by decide) h3
   have hl:=hlb l h2
   refine⟨_,by rw[gm,if_neg (by decide: ¬ (4:Int)=1),if_neg (by decide: ¬ (4:Int)=2),if_neg (by decide: ¬ (4:Int)=3),if_pos rfl],?_⟩
   simp only[eb,show(⟨#[61]⟩:B).size=1 from rfl,show(⟨#[46]⟩:B).size=1 from rfl];omega
 | reg n h=>
   have hn:=rU (k:=4) (by decide) h
   refine⟨_,by rw[gm,if_neg (by decide: ¬ (5:Int)=1),if_neg (by decide: ¬ (5:Int)=2),if_neg (by decide: ¬ (5:Int)=3),if_neg (by decide: ¬ (5:Int)=4),if_pos rfl,Ot,if_pos rfl],?_⟩
   simp only[eb,show(⟨#[105,110,40]⟩:B).size=3 from rfl,show(⟨#[41]⟩:B).size=1 from rfl];omega
 | regk n v h1 h2=>
   have hn:=rU (k:=4) (by decide) h1
   obtain⟨t,e1,e2⟩:=D2 (k:=1) (by decide) h2
   refine⟨_,by rw[gm,if_neg (by decide: ¬ (5:Int)=1),if_neg (by decide: ¬ (5:Int)=2),if_neg (by decide: ¬ (5:Int)=3),if_neg (by decide: ¬ (5:Int)=4),if_pos rfl,Ot,if_neg (show ¬t_n=E0 by decide),e1];rfl,?_⟩
   simp only[eb,show(⟨#[105,110,40]⟩:B).size=3 from rfl,show(⟨#[41]⟩:B).size=1 from rfl,show(⟨#[44]⟩:B).size=1 from rfl,show(⟨#[61]⟩:B).size=1 from rfl,show t_n.size=1 from rfl];omega
theorem uq {lb:List B} (hlb: ∀l∈lb,l.size≤1): ∀ {n:Nat} {c:Cond},GI lb n c→ ∀m,n < m→ ∃t,bj m c=some t∧t.size+7≤50*2^n
 | _,_, .atom n c h,m,hm=> by
   obtain⟨m,rfl⟩: ∃k,m=k+1:=⟨m -1,by omega⟩
   obtain⟨t,h1,h2⟩:=R2 hlb h (bj m)
   have:=Nat.one_le_two_pow (n:=n)
   exact⟨t,h1,by omega⟩
 | _,_, .not n k h,m,hm=> by
   obtain⟨m,rfl⟩: ∃k,m=k+1:=⟨m -1,by omega⟩
   obtain⟨t,h1,h2⟩:=uq hlb h m (by omega)
   have:=Nat.one_le_two_pow (n:=n)
   refine⟨⟨#[33]⟩ ++eX (decide (k.op=7) || decide (k.op=8)) t,by rw[bj,gm,if_neg (by decide: ¬ (6:Int)=1),if_neg (by decide: ¬ (6:Int)=2),if_neg (by decide: ¬ (6:Int)=3),if_neg (by decide: ¬ (6:Int)=4),if_neg (by decide: ¬ (6:Int)=5),if_pos rfl];simp only[WS,h1,Option.map_some],?_⟩
   have:=wr (decide (k.op=7) || decide (k.op=8)) t
   rw[eb,show(⟨#[33]⟩:B).size=1 from rfl,Nat.pow_succ]
   omega
 | _,_, .two n op a b ho h1 h2,m,hm=> by
   obtain⟨m,rfl⟩: ∃k,m=k+1:=⟨m -1,by omega⟩
   obtain⟨t,e1,e2⟩:=uq hlb h1 m (by omega)
   obtain⟨u,e3,e4⟩:=uq hlb h2 m (by omega)
   obtain⟨r,e5,e6⟩:=Gb (sep:=kI (op=7)) (par:=lk op) e1 e3
   have hs: (kI (op=7)).size=3:=by unfold kI;split <;> rfl
   refine⟨r,by rw[bj,gm,if_neg (by omega: ¬op=1),if_neg (by omega: ¬op=2),if_neg (by omega: ¬op=3),if_neg (by omega: ¬op=4),if_neg (by omega: ¬op=5),if_neg (by omega: ¬op=6),if_pos ho,e5],?_⟩
   rw[Nat.pow_succ]
   omega
theorem R1 {lb:List B} (hlb: ∀l∈lb,l.size≤1) {n:Nat} {c:Cond} (h:GC lb n c) (m:Nat) (hm:n < m): ∃t,bj m c=some t∧t.size+7≤50*2^n:=by
 have:=Nat.one_le_two_pow (n:=n)
 obtain⟨m,rfl⟩: ∃k,m=k+1:=⟨m -1,by omega⟩
 cases h with
 | any=> exact⟨⟨#[91,93]⟩,rfl,by show 2+7≤_;omega⟩
 | top v f h=>
   obtain⟨t,e1,e2⟩:=JF (k:=4) (by decide) h f
   refine⟨t,by rw[bj,gm,if_neg (by decide: ¬ (2:Int)=1),if_pos rfl,e1];rfl,by omega⟩
 | inner c h=> exact uq hlb h _ hm
theorem Sa (x:Cond) (t:B): (bL x t).size≤t.size+2:=by
 unfold bL
 split
 ·omega
 ·simp only[eb,show(⟨#[91]⟩:B).size=1 from rfl,show(⟨#[93]⟩:B).size=1 from rfl];omega
theorem Ta {r:Int×Int} (h:r∈Reps): ∃u,A4 r.1 r.2=some u∧u.size≤5:=by
 have:Reps.all (fun r=> match A4 r.1 r.2 with | some u=> decide (u.size≤5) | none=> false)=true:=by decide
 have:=List.all_eq_true.1 this r h
 cases hs:A4 r.1 r.2 with
 | none=> rw[hs] at this;cases this
 | some u=> rw[hs] at this;exact⟨u,rfl,by simpa using this⟩
theorem I0 {p:Pat} (h:p.op=1):aW p= [p]:=by rw[bJ,if_pos h]
theorem Ao {p k:Pat} (h: ¬p.op=1) (hk:k∈p.kids) {y:Pat} (hy:y∈aW k):y∈aW p:=by
 rw[bJ,if_neg h]
 exact List.mem_flatMap.2 ⟨k,hk,hy⟩
theorem TA {lb lb':List B} (h1: ∀l∈lb,l.size≤1) (h2: ∀l∈lb',l.size≤1): ∀n p,WP lb n p→(∀y∈aW p,GC lb' 1 y.cond)→ ∀m,n < m→ ∃t,eT (bj 10) m p=some t∧t.size+8≤150*2^n:=by
 refine yu fun n p hp ih hc m hm=> ?_
 obtain⟨m,rfl⟩: ∃k,m=k+1:=⟨m -1,by omega⟩
 have hpow:=Nat.one_le_two_pow (n:=n)
 rcases qa hp with(⟨g1,g2,g3,g4,g5,g6⟩ | ⟨g1,g2,g3,g4,g5,g6,g7⟩) | ⟨k,rfl,(⟨g1,g2,g3,g4,g5,g6,a,b,g7,ga,gb⟩ | ⟨g1,g2,g3,g4,g5,a,g7,ga⟩)⟩
 ·obtain⟨t,e1,e2⟩:=R1 h2 (hc p (by rw[I0 g1];simp)) 10 (by omega)
  refine⟨_,by rw[eT,oM,if_pos g1,LN,e1];rfl,?_⟩
  have hb:=Sa p.cond t
  have hl:p.lab.size≤1:=g2.elim (fun e=> by rw[e];exact Nat.zero_le _) (h1 _)
  simp only
  split
  ·omega
  ·simp only[eb,show(⟨#[58]⟩:B).size=1 from rfl];omega
 ·have hr:=rU (k:=4) (l:=pQ) (by decide) g4
  rcases g1 with g1 | g1
  ·refine⟨_,by rw[eT,oM,if_neg (by omega),if_pos g1],?_⟩
   simp only[eb,show(⟨#[60]⟩:B).size=1 from rfl,show(⟨#[62]⟩:B).size=1 from rfl];omega
  ·refine⟨_,by rw[eT,oM,if_neg (by omega),if_neg (by omega),if_pos g1],?_⟩
   simp only[eb,show(⟨#[60,47]⟩:B).size=2 from rfl,show(⟨#[62]⟩:B).size=1 from rfl];omega
 ·obtain⟨m1,e1,_,a1⟩:=ih a (by rw[g7];simp)
  obtain⟨m2,e2,_,a2⟩:=ih b (by rw[g7];simp)
  have hn1: ¬p.op=1:=by omega
  obtain⟨t,q1,q2⟩:=a1 (fun y hy=> hc y (Ao hn1 (by rw[g7];simp) hy)) m (by omega)
  obtain⟨u,q3,q4⟩:=a2 (fun y hy=> hc y (Ao hn1 (by rw[g7];simp) hy)) m (by omega)
  obtain⟨r,q5,q6⟩:=Gb (sep:=zR p.op) (par:=lE p.op) q1 q3
  have hs: (zR p.op).size≤3:=by unfold zR;split <;> decide
  refine⟨r,by rw[eT,oM,if_neg hn1,if_neg (by omega),if_neg (by omega),if_neg (by omega),if_pos g1,g7,q5],?_⟩
  have e1:m1=k:=by omega
  have e2:m2=k:=by omega
  subst e1;subst e2
  rw[Nat.pow_succ]
  omega
 ·obtain⟨m1,e1,_,a1⟩:=ih a (by rw[g7];simp)
  have hn1: ¬p.op=1:=by omega
  obtain⟨t,q1,q2⟩:=a1 (fun y hy=> hc y (Ao hn1 (by rw[g7];simp) hy)) m (by omega)
  obtain⟨u,q3,q4⟩:=Ta g5
  refine⟨eX (decide (a.op=5) || decide (a.op=4)) t++u,by rw[eT,oM,if_neg hn1,if_neg (by omega),if_neg (by omega),if_pos g1,g7];simp only[TH,q1,Option.bind_some];simp only at q3;rw[q3];rfl,?_⟩
  have e1:m1=k:=by omega
  subst e1
  have:=wr (decide (a.op=5) || decide (a.op=4)) t
  rw[eb,Nat.pow_succ]
  omega
theorem M6 {n:Int} (h0: -10 < n) (h1:n < 10): ∃t,mb n=some t∧t.size≤2:=by
 unfold mb
 split
 ·exact⟨_,rfl,Nat.le_succ _⟩
 ·rw[if_pos (by omega)]
  exact⟨_,rfl,by rw[eb];exact Nat.le_refl _⟩
theorem Sh {l:List B} (h: ∀x∈l,x∈Sk): ∃t,gp l=some t∧t.size≤6*l.length:=by
 induction l with
 | nil=> exact⟨E0,rfl,Nat.zero_le _⟩
 | cons a l ih=>
   obtain⟨t,e1,e2⟩:=ih fun x hx=> h x (by simp[hx])
   obtain⟨u,e3,e4⟩:=D2 (k:=3) (by decide) (h a (by simp))
   refine⟨_,by rw[gp,e3,e1];rfl,?_⟩
   simp only[eb,show(⟨#[44]⟩:B).size=1 from rfl,List.length_cons]
   omega
theorem Xt {op:Int} (h:op=1∨op=4∨op=5∨op=6∨op=7∨op=8∨op=9∨op=10): ∃t,Cg op=some t∧t.size≤8:=by
 rcases h with rfl | rfl | rfl | rfl | rfl | rfl | rfl | rfl <;> exact⟨_,rfl,by decide⟩
theorem n9 {g:Glob} (h:g.op=1∨g.op=4∨g.op=5∨g.op=6∨g.op=7∨g.op=8∨g.op=9∨g.op=10) (ha:g.a.size≤1) (hb:g.b.size≤1) (hn:g.name.size≤4) (h1: -10 < g.mn) (h2:g.mn < 10) (h3: -10 < g.mx) (h4:g.mx < 10)
 (h5: ¬ (g.op≠8∧g.args≠ [])) (h6:g.args.length≤2) (h7: ∀x∈g.args,x∈Sk): ∃t,fj g=some t∧t.size≤50:=by
 obtain⟨w,e1,e2⟩:=Xt h
 obtain⟨r,e3,e4⟩:=Sh h7
 obtain⟨n,e5,e6⟩: ∃n,kP g=some n∧n.size≤6:=by
  unfold kP
  split
  ·obtain⟨t,q1,q2⟩:=M6 h1 h2
   obtain⟨u,q3,q4⟩:=M6 h3 h4
   rw[q1,q3]
   refine⟨_,rfl,?_⟩
   simp only[eb,show(⟨#[44]⟩:B).size=1 from rfl];omega
  ·exact⟨E0,rfl,Nat.zero_le _⟩
 refine⟨_,by rw[fj,e1,e5];simp only[Option.bind_some];rw[if_neg h5,e3];rfl,?_⟩
 have e0:E0.size=0:=rfl
 simp only[eb,show(⟨#[40]⟩:B).size=1 from rfl,show(⟨#[41]⟩:B).size=1 from rfl]
 split <;> split <;> simp only[eb,show(⟨#[44]⟩:B).size=1 from rfl,e0] <;> omega
theorem cH (f:Glob→Option B) {g:Glob} (h:g.op=1∨g.op=4∨g.op=5∨g.op=6∨g.op=7∨g.op=8∨g.op=9∨g.op=10):ka f g=fj g:=by
 rw[ka,if_neg (by omega),if_neg (by omega),if_neg (by omega),if_neg (by omega)]
theorem RK {lb:List B} (hlb: ∀l∈lb,l.size≤1): ∀ {n:Nat} {g:Glob},GG lb n g→ ∀m,n < m→ ∃t,aX m g=some t∧t.size+7≤70*2^n:=by
 intro n g h
 induction h with
 | not n k h ih=>
   intro m hm
   obtain⟨m,rfl⟩: ∃k,m=k+1:=⟨m -1,by omega⟩
   obtain⟨t,h1,h2⟩:=ih m (by omega)
   have:=Nat.one_le_two_pow (n:=n)
   refine⟨⟨#[33]⟩ ++eX (decide (k.op=12) || decide (k.op=13)) t,by rw[aX,ka,if_neg (by decide: ¬ (11:Int)=2),if_neg (by decide: ¬ (11:Int)=3),if_pos rfl];simp only[WR,h1,Option.map_some],?_⟩
   have:=wr (decide (k.op=12) || decide (k.op=13)) t
   rw[eb,show(⟨#[33]⟩:B).size=1 from rfl,Nat.pow_succ]
   omega
 | two n op a b ho h1 h2 ih1 ih2=>
   intro m hm
   obtain⟨m,rfl⟩: ∃k,m=k+1:=⟨m -1,by omega⟩
   obtain⟨t,e1,e2⟩:=ih1 m (by omega)
   obtain⟨u,e3,e4⟩:=ih2 m (by omega)
   obtain⟨r,e5,e6⟩:=Gb (sep:=kI (op=12)) (par:=gd op) e1 e3
   have hs: (kI (op=12)).size=3:=by unfold kI;split <;> rfl
   refine⟨r,by rw[aX,ka,if_neg (by omega: ¬op=2),if_neg (by omega: ¬op=3),if_neg (by omega: ¬op=11),if_pos ho,e5],?_⟩
   rw[Nat.pow_succ]
   omega
 | val n a v f h1 h2=>
   intro m hm
   obtain⟨m,rfl⟩: ∃k,m=k+1:=⟨m -1,by omega⟩
   obtain⟨t,e1,e2⟩:=JF (k:=3) (by decide) h2 f
   have:=Nat.one_le_two_pow (n:=n)
   have:=hlb a h1
   refine⟨_,by rw[aX,ka,if_pos rfl,e1];rfl,?_⟩
   simp only[eb,show(⟨#[46]⟩:B).size=1 from rfl,show(⟨#[61]⟩:B).size=1 from rfl,show t_word.size=4 from rfl];omega
 | same n a b g h1 h2 h3=>
   intro m hm
   obtain⟨m,rfl⟩: ∃k,m=k+1:=⟨m -1,by omega⟩
   have:=Nat.one_le_two_pow (n:=n)
   have:=hlb a h1
   have:=hlb b h2
   have:=rU (k:=4) (by decide) h3
   refine⟨_,by rw[aX,ka,if_neg (by decide: ¬ (3:Int)=2),if_pos rfl],?_⟩
   simp only[eb,show(⟨#[46]⟩:B).size=1 from rfl,show(⟨#[61]⟩:B).size=1 from rfl,show t_word.size=4 from rfl];omega
 | bound n a h=>
   intro m hm
   obtain⟨m,rfl⟩: ∃k,m=k+1:=⟨m -1,by omega⟩
   have:=Nat.one_le_two_pow (n:=n)
   obtain⟨t,e1,e2⟩:=n9 (g:=⟨1,a,E0,E0,E0,E0,false,0,0, [], []⟩) (by simp) (hlb a h) (Nat.zero_le _) (Nat.zero_le _) (by simp) (by simp) (by simp) (by simp) (by simp) (by simp) (by simp)
   exact⟨t,by rw[aX,cH _ (by simp),e1],by omega⟩
 | dist n a b mn mx h1 h2 h3 h4 h5 h6=>
   intro m hm
   obtain⟨m,rfl⟩: ∃k,m=k+1:=⟨m -1,by omega⟩
   have:=Nat.one_le_two_pow (n:=n)
   obtain⟨t,e1,e2⟩:=n9 (g:=⟨4,a,b,E0,E0,E0,false,mn,mx, [], []⟩) (by simp) (hlb a h1) (hlb b h2) (Nat.zero_le _) (by simp only;omega) (by simp only;omega) (by simp only;omega) (by simp only;omega) (by simp) (by simp) (by simp)
   exact⟨t,by rw[aX,cH _ (by simp),e1],by omega⟩
 | reg n a b t h1 h2 h3=>
   intro m hm
   obtain⟨m,rfl⟩: ∃k,m=k+1:=⟨m -1,by omega⟩
   have:=Nat.one_le_two_pow (n:=n)
   obtain⟨t,e1,e2⟩:=n9 (g:=⟨5,a,b,t,E0,E0,false,0,0, [], []⟩) (by simp) (hlb a h1) (hlb b h2) (rU (k:=4) (l:=pQ) (by decide) h3) (by simp) (by simp) (by simp) (by simp) (by simp) (by simp) (by simp)
   exact⟨t,by rw[aX,cH _ (by simp),e1],by omega⟩
 | head n op a b ho h1 h2=>
   intro m hm
   obtain⟨m,rfl⟩: ∃k,m=k+1:=⟨m -1,by omega⟩
   have:=Nat.one_le_two_pow (n:=n)
   obtain⟨t,e1,e2⟩:=n9 (g:=⟨op,a,b,E0,E0,E0,false,0,0, [], []⟩) (by simp only;omega) (hlb a h1) (hlb b h2) (Nat.zero_le _) (by simp) (by simp) (by simp) (by simp) (by simp) (by simp) (by simp)
   exact⟨t,by rw[aX,cH _ (by simp only;omega),e1],by omega⟩
 | path n a b l h1 h2 h3 h4=>
   intro m hm
   obtain⟨m,rfl⟩: ∃k,m=k+1:=⟨m -1,by omega⟩
   have:=Nat.one_le_two_pow (n:=n)
   obtain⟨t,e1,e2⟩:=n9 (g:=⟨8,a,b,E0,E0,E0,false,0,0,l, []⟩) (by simp) (hlb a h1) (hlb b h2) (Nat.zero_le _) (by simp) (by simp) (by simp) (by simp) (by simp) h3 h4
   exact⟨t,by rw[aX,cH _ (by simp),e1],by omega⟩
 | node n a b t h1 h2 h3=>
   intro m hm
   obtain⟨m,rfl⟩: ∃k,m=k+1:=⟨m -1,by omega⟩
   have:=Nat.one_le_two_pow (n:=n)
   obtain⟨t,e1,e2⟩:=n9 (g:=⟨9,a,b,t,E0,E0,false,0,0, [], []⟩) (by simp) (hlb a h1) (hlb b h2) (rU (k:=4) (l:=Ny) (by decide) h3) (by simp) (by simp) (by simp) (by simp) (by simp) (by simp) (by simp)
   exact⟨t,by rw[aX,cH _ (by simp),e1],by omega⟩
 | depth n a mn mx h1 h3 h4 h5 h6=>
   intro m hm
   obtain⟨m,rfl⟩: ∃k,m=k+1:=⟨m -1,by omega⟩
   have:=Nat.one_le_two_pow (n:=n)
   obtain⟨t,e1,e2⟩:=n9 (g:=⟨10,a,E0,E0,E0,E0,false,mn,mx, [], []⟩) (by simp) (hlb a h1) (Nat.zero_le _) (Nat.zero_le _) (by simp only;omega) (by simp only;omega) (by simp only;omega) (by simp only;omega) (by simp) (by simp) (by simp)
   exact⟨t,by rw[aX,cH _ (by simp),e1],by omega⟩
theorem UZ {f:Filt} (h:GF f): ∃t,KZ f=some t∧t.size≤20:=by
 obtain⟨op,neg,reg⟩:=f
 obtain⟨h1,h2⟩:=h
 have hr:=rU (k:=4) (l:=pQ) (by decide) h2
 simp only at h1 hr
 have: ∃w,(if 0 < op then filterL[op.toNat]? else none)=some w∧w.size≤11:=by rcases h1 with rfl | rfl | rfl <;> exact⟨_,rfl,by decide⟩
 obtain⟨w,e1,e2⟩:=this
 refine⟨_,by rw[KZ];simp only;rw[e1];rfl,?_⟩
 simp only
 split <;> simp only[eb,show(⟨#[32]⟩:B).size=1 from rfl,show(⟨#[33]⟩:B).size=1 from rfl] <;> omega
theorem RQ {l:List Filt} (h: ∀f∈l,GF f): ∃t,kV l=some t∧t.size≤20*l.length:=by
 induction l with
 | nil=> exact⟨E0,rfl,Nat.zero_le _⟩
 | cons a l ih=>
   obtain⟨t,e1,e2⟩:=ih fun x hx=> h x (by simp[hx])
   obtain⟨u,e3,e4⟩:=UZ (h a (by simp))
   refine⟨_,by rw[kV,e3,e1];rfl,?_⟩
   simp only[eb,List.length_cons]
   omega
theorem N5 {s:Int} (h0:0≤s) (h1:s < 4): ∃t,xc s=some t∧t.size≤30:=by
 have:s=0∨s=1∨s=2∨s=3:=by omega
 rcases this with rfl | rfl | rfl | rfl <;> exact⟨_,rfl,by decide⟩
theorem Mr {lb:List B} (h:Jm lb): ∀l∈lb,l.size≤1:=fun l hl=> by rcases h l hl with rfl | rfl <;> decide
theorem No {lb:List B} {n:Nat} {p:Pat} (h:Jm lb) (hw:WP lb n p): ∀l∈jE p [],l.size≤1:=fun l hl=> by
 rcases Qp n p hw [] l hl with h1 | h1
 ·cases h1
 ·exact Mr h l h1
theorem L3 {n:Nat} {q:Qry} (h:GQ n q) (hn:n≤5): ∃t,Dv q=some t∧t.size≤6000:=by
 obtain⟨lb,hlb,hw⟩:=h.lab
 obtain⟨t,e1,e2⟩:=TA (Mr hlb) (No hlb hw) n _ hw h.cond 10 (by omega)
 have hp:2^n≤2^5:=Nat.pow_le_pow_right (by omega) hn
 obtain⟨g,e3,e4⟩: ∃g,zr q.glob=some g∧g.size≤300:=by
  unfold zr
  rcases h.glob with hg | hg
  ·rw[hg];exact⟨E0,rfl,by decide⟩
  ·obtain⟨g,q1,q2⟩:=RK (No hlb hw) hg 10 (by omega)
   split
   ·exact⟨E0,rfl,by decide⟩
   ·rw[q1]
    refine⟨_,rfl,?_⟩
    rw[eb,show(⟨#[32,58,58,32]⟩:B).size=4 from rfl]
    omega
 obtain⟨f,e5,e6⟩:=RQ h.filts.2
 obtain⟨s,e7,e8⟩:=N5 h.strat.1 h.strat.2
 have:=h.filts.1
 refine⟨_,by rw[Dv,e1,e3,e5,e7];rfl,?_⟩
 simp only[eb]
 omega
end Go.Gv

namespace Go.Gv
mutual
def mX:Cond→Nat | .mk _ _ _ _ _ _ ks=> jG ks+1
def jG:List Cond→Nat | []=> 0 | k::ks=> mX k+jG ks
end
mutual
def ro:Glob→Nat | .mk _ _ _ _ _ _ _ _ _ _ ks=> kQ ks+1
def kQ:List Glob→Nat | []=> 0 | k::ks=> ro k+kQ ks
end
theorem D7 (x:Cond):mX x=jG x.kids+1:=by cases x;rw[mX]
theorem KB (x:Glob):ro x=kQ x.kids+1:=by cases x;rw[ro]
theorem Az (x:Glob):gh x=kU x.kids+1:=by cases x;rw[gh]
theorem BP: ∀ (a b:List Cond),jG (a++b)=jG a+jG b
 | [],b=> by rw[List.nil_append,jG];omega
 | k::a,b=> by rw[List.cons_append,jG,jG,BP a b];omega
theorem BO: ∀ (a b:List Glob),kQ (a++b)=kQ a+kQ b
 | [],b=> by rw[List.nil_append,kQ];omega
 | k::a,b=> by rw[List.cons_append,kQ,kQ,BO a b];omega
theorem Jj: ∀ (a b:List Cond),jH (a++b)=max (jH a) (jH b)
 | [],b=> by rw[List.nil_append,jH];omega
 | k::a,b=> by rw[List.cons_append,jH,jH,Jj a b];omega
theorem I9: ∀ (a b:List Glob),kU (a++b)=max (kU a) (kU b)
 | [],b=> by rw[List.nil_append,kU];omega
 | k::a,b=> by rw[List.cons_append,kU,kU,I9 a b];omega
theorem IS {ks:List Cond} {k:Nat} {x:Cond} (h:ks[k]?=some x):jG (ks.take (k+1))=jG (ks.take k) +mX x∧jH (ks.take (k+1))=max (jH (ks.take k)) (fk x)∧jG (ks.take (k+1))≤jG ks:=by
 have e:=dq h
 refine⟨by rw[e,BP,jG,jG];omega,by rw[e,Jj,jH,jH];omega,?_⟩
 conv=> rhs;rw[←List.take_append_drop (k+1) ks,BP]
 omega
theorem IR {ks:List Glob} {k:Nat} {x:Glob} (h:ks[k]?=some x):kQ (ks.take (k+1))=kQ (ks.take k) +ro x∧kU (ks.take (k+1))=max (kU (ks.take k)) (gh x)∧kQ (ks.take (k+1))≤kQ ks:=by
 have e:=dq h
 refine⟨by rw[e,BO,kQ,kQ];omega,by rw[e,I9,kU,kU];omega,?_⟩
 conv=> rhs;rw[←List.take_append_drop (k+1) ks,BO]
 omega
theorem KW {lb:List B} : ∀ {n:Nat} {c:Cond},GI lb n c→mX c < 2^ (n+1)∧fk c≤n+1
 | _,_, .atom n c h=> by
   have:=Nat.one_le_two_pow (n:=n)
   rw[D7,uC,KX h,Nat.pow_succ]
   simp only[jG,jH]
   omega
 | _,_, .not n k h=> by
   have:=KW h
   rw[mX,fk,Nat.pow_succ]
   simp only[jG,jH]
   omega
 | _,_, .two n op a b _ h1 h2=> by
   have:=KW h1
   have:=KW h2
   rw[mX,fk,Nat.pow_succ]
   simp only[jG,jH]
   omega
theorem UM {lb:List B} {n:Nat} {c:Cond} (h:GC lb n c):mX c < 2^ (n+1)∧fk c≤n+1:=by
 have:=Nat.one_le_two_pow (n:=n)
 cases h with
 | any=> rw[mX,fk,Nat.pow_succ];simp only[jG,jH];omega
 | top v f h=> rw[mX,fk,Nat.pow_succ];simp only[jG,jH];omega
 | inner c h=> exact KW h
theorem UN {lb:List B} {n:Nat} {c k:Cond} (h:GC lb n c) (hk:k∈c.kids): ∃m,m≤n∧GC lb m k:=by
 cases h with
 | any=> cases hk
 | top v f h=> cases hk
 | inner c h=>
   cases h with
   | atom n c h=> rw[KX h] at hk;cases hk
   | not n k' h=>
     simp at hk
     subst hk
     exact⟨n,by omega, .inner _ h⟩
   | two n op a b ho h1 h2=>
     simp at hk
     rcases hk with rfl | rfl
     ·exact⟨n,by omega, .inner _ h1⟩
     ·exact⟨n,by omega, .inner _ h2⟩
theorem UJ {lb:List B} {n:Nat} {g:Glob} (h:GG lb n g):ro g < 2^ (n+1)∧gh g≤n+1:=by
 induction h with
 | not n k h ih=> rw[ro,gh,Nat.pow_succ];simp only[kQ,kU];omega
 | two n op a b ho h1 h2 ih1 ih2=> rw[ro,gh,Nat.pow_succ];simp only[kQ,kU];omega
 | bound n | val n | same n | dist n | reg n | head n | path n | node n | depth n=> have:=Nat.one_le_two_pow (n:=n);rw[ro,gh,Nat.pow_succ];simp only[kQ,kU];omega
theorem UK {lb:List B} {n:Nat} {g k:Glob} (h:GG lb n g) (hk:k∈g.kids): ∃m,m≤n∧GG lb m k:=by
 cases h with
 | not n k' h=>
   simp at hk
   subst hk
   exact⟨n,by omega,h⟩
 | two n op a b ho h1 h2=>
   simp at hk
   rcases hk with rfl | rfl
   ·exact⟨n,by omega,h1⟩
   ·exact⟨n,by omega,h2⟩
 | _=> cases hk
end Go.Gv

namespace Go.Gv
open Cod (enc dec)
variable {S S0:Nat→Spc}
def pJ {X:Type} (T:X→Option B) (x:X):Prop:= ∃t,T x=some t∧t.size≤mi
abbrev gq:Spc:=cY (a1 B) (pJ lW) (enc (X:=B)) fun x y=> lW x=some y
theorem qbm {s:B} (h: ¬ (34:UInt8) ∈s.data.toList) {i:Nat} {c:UInt8} (hc:s.data[i]?=some c): ¬c.toNat=34:=by
 intro e
 have:c=34:=UInt8.toNat_inj.1 e
 subst this
 exact h (List.mem_of_getElem? (by rw[Array.getElem?_toList];exact hc))
theorem Xy {s:B} {k:Nat} (h:k < s.size):s.extract 0 k++s.extract k (k+1)=s.extract 0 (k+1):=by
 rw[ByteArray.extract_append_extract]
 congr 1 <;> omega
theorem Ls:Walk uu tF S (a1 B) (pJ lW) (enc (X:=B)) fun x y=> lW x=some y:=by
 rintro s ⟨t,ht,hl⟩
 have hR:=ht
 unfold lW at ht
 by_cases hn: (34:UInt8) ∈s.data.toList
 ·rw[if_pos hn] at ht;cases ht
 rw[if_neg hn] at ht
 obtain rfl:=Option.some.inj ht
 simp only[ag,ab] at hl
 simp at hl
 have hL:=jf
 simp[uu,tF]
 refine jL (X:=Nat) [0] [] (fun k=> k≤s.size) (fun k=> [(3,enc (⟨#[34]⟩ ++s.extract 0 k)),(4,enc (k:Int))]) (fun _=> []) (fun k=> s.size -k) 0 (by omega) ?_ (by simp) ?_
 ·simp
 ·intro k hk
  simp[-Bool.forall_bool, -Bool.exists_bool]
  have h34: (⟨#[34]⟩:B).size=1:=rfl
  refine fun hsz=> ⟨fun hlt=> ⟨hlt,fun c hc=> ⟨fun e=> absurd (by omega) (qbm hn hc),fun _=> ⟨by simp only[InR];omega,by omega,by omega,by omega,by simp only[InR];omega,k+1,by omega,⟨?_,by omega⟩,by omega⟩⟩⟩,fun hge=> ⟨by omega,?_⟩⟩
  ·rw[ByteArray.append_assoc,Xy hlt]
  ·rw[hR,show k=s.size by omega,ByteArray.extract_zero_size]
abbrev dJ:Spc:=cY (a2 B Bool) (pJ il) (enc (X:=B)) fun x y=> il x=some y
theorem Ju (h1:S bz=gq):Walk ot oc S (a2 B Bool) (pJ il) (enc (X:=B)) fun x y=> il x=some y:=by
 rintro⟨s,fo⟩ ⟨t,ht,hl⟩
 obtain⟨q,hq,ht⟩:=Option.map_eq_some_iff.1 ht
 simp only at hq ht
 have hL:=jf
 cases fo with
 | false=>
   simp at ht
   subst ht
   have hp:pJ lW s:=⟨q,hq,hl⟩
   simp[ot,oc,h1,hp,hq,il, -Bool.forall_bool, -Bool.exists_bool]
 | true=>
   simp at ht
   subst ht
   simp only[ag,ab] at hl
   simp at hl
   have hp:pJ lW s:=⟨q,hq,by omega⟩
   simp[ot,oc,h1,hp,hq,il,ab, -Bool.forall_bool, -Bool.exists_bool]
   omega
abbrev cP:Spc:=cY (a2 B Bool) (fun x=> x.1.size≤mi) (enc (X:=B)) fun x y=> y=eX x.2 x.1
theorem Hy:Walk qK ql S (a2 B Bool) (fun x=> x.1.size≤mi) (enc (X:=B)) fun x y=> y=eX x.2 x.1:=by
 rintro⟨s,b⟩ hl
 have hL:=jf
 simp only at hl
 simp[qK,ql,eX,ab, -Bool.forall_bool, -Bool.exists_bool]
 cases b
 ·simp
 ·simp
  omega
abbrev Tk (n:Nat):Spc:=cY (a1 Int) (fun x=> -10 < x∧x < 10∧(x < 0→2≤n)∧1≤n) (enc (X:=B)) fun x y=> mb x=some y
theorem HB (n:Nat) (h1:S aL=Tk n):Walk pB pk S (a1 Int) (fun x=> -10 < x∧x < 10∧(x < 0→2≤n+1)∧1≤n+1) (enc (X:=B)) fun x y=> mb x=some y:=by
 rintro x ⟨h2,h3,h4,h5⟩
 simp[pB,pk,h1,h2,h3, -Bool.forall_bool, -Bool.exists_bool]
 refine⟨fun hx=> ⟨by simp only[InR];omega,⟨by omega,by omega,by omega⟩,fun y hy=> ?_⟩,fun hx=> ⟨by simp only[InR];omega,?_⟩⟩
 ·unfold mb at hy ⊢
  rw[if_pos (by omega)] at hy
  obtain rfl:=Option.some.inj hy
  rw[if_neg (by omega),if_pos (by omega)]
  exact⟨by show 1+1≤_;decide,rfl⟩
 ·have:x=0∨x=1∨x=2∨x=3∨x=4∨x=5∨x=6∨x=7∨x=8∨x=9:=by omega
  rcases this with rfl | rfl | rfl | rfl | rfl | rfl | rfl | rfl | rfl | rfl <;> exact⟨rfl,rfl⟩
end Go.Gv

namespace Go.Gv
open Cod (enc dec)
variable {S S0:Nat→Spc}
theorem j8 {α:Type} {sep:B} {par:α→Bool} {f:α→Option B} {i:Nat} {ks:List α} {k:α} (hx:ks[i]?=some k) {r:B} (h:dn sep par f i (ks.drop i)=some r):
 ∃t r',f k=some t∧dn sep par f (i+1) (ks.drop (i+1))=some r'∧r=((if i=0 then E0 else sep) ++eX (par k) t) ++r':=by
 have hd:ks.drop i=k::ks.drop (i+1):=ek hx
 rw[hd,dn] at h
 obtain⟨t,h1,h⟩:=Option.bind_eq_some_iff.1 h
 obtain⟨r',h2,h⟩:=Option.map_eq_some_iff.1 h
 exact⟨t,r',h1,h2,h.symm⟩
theorem zc (b:Bool) (t:B):t.size≤(eX b t).size:=by
 unfold eX
 split
 ·rw[ag,ag];omega
 ·exact Nat.le_refl _
abbrev rE (n:Nat):Spc:=cY (a1 Cond) (pJ (bj n)) (enc (X:=B)) fun x y=> bj n x=some y
theorem De (n:Nat) (h1:S bf=dJ) (h2:S bz=gq) (h3:S aV=cP) (h4:S cw=rE n):
 Walk cy cx S (a1 Cond) (pJ (bj (n+1))) (enc (X:=B)) fun x y=> bj (n+1) x=some y:=by
 rintro⟨op,name,arg,val,lab,fold,kids⟩ ⟨t,ht,hl⟩
 have hL:=jf
 have hR:=ht
 rw[bj] at ht
 unfold gm at ht
 simp only at ht
 have fin: ∀ {u:B},u=t→bj (n+1) ⟨op,name,arg,val,lab,fold,kids⟩=some u:=fun h=> by rw[h];exact hR
 split at ht
 ·rename_i e
  subst e
  obtain rfl:=Option.some.inj ht
  simp[cy,cx, -Bool.forall_bool, -Bool.exists_bool]
  exact fin rfl
 rename_i n1
 split at ht
 ·rename_i e
  subst e
  obtain⟨q,hq,ht⟩:=Option.map_eq_some_iff.1 ht
  by_cases hn:name=E0
  ·rw[if_pos hn] at ht
   subst ht
   subst hn
   have hp:pJ il (val,fold):=⟨q,hq,hl⟩
   simp[cy,cx,h1,hp,hq,E0, -Bool.forall_bool, -Bool.exists_bool]
   exact fin rfl
  ·rw[if_neg hn] at ht
   subst ht
   simp only[ag,ab] at hl
   simp at hl
   have hn': ¬name=⟨#[]⟩:=hn
   have hp:pJ il (val,fold):=⟨q,hq,by omega⟩
   simp[cy,cx,h1,hp,hq,hn',ab, -Bool.forall_bool, -Bool.exists_bool]
   repeat' first | exact hR | exact fin rfl | apply And.intro | omega
 rename_i n2
 split at ht
 ·rename_i e
  subst e
  obtain⟨q,hq,ht⟩:=Option.map_eq_some_iff.1 ht
  subst ht
  simp only[ag,ab] at hl
  simp at hl
  have hp:pJ lW val:=⟨q,hq,by omega⟩
  simp[cy,cx,h2,hp,hq,ab, -Bool.forall_bool, -Bool.exists_bool]
  repeat' first | exact hR | exact fin rfl | apply And.intro | omega
 rename_i n3
 split at ht
 ·rename_i e
  subst e
  obtain rfl:=Option.some.inj ht
  simp only[ag,ab] at hl
  simp at hl
  simp[cy,cx,ab, -Bool.forall_bool, -Bool.exists_bool]
  repeat' first | exact hR | exact fin rfl | apply And.intro | omega
 rename_i n4
 split at ht
 ·rename_i e
  subst e
  unfold Ot at ht
  simp only at ht
  by_cases hn:arg=E0
  ·rw[if_pos hn] at ht
   obtain rfl:=Option.some.inj ht
   subst hn
   simp only[ag,ab] at hl
   simp at hl
   simp[cy,cx,ab,E0, -Bool.forall_bool, -Bool.exists_bool]
   repeat' first | exact hR | exact fin rfl | apply And.intro | omega
  ·rw[if_neg hn] at ht
   obtain⟨q,hq,ht⟩:=Option.map_eq_some_iff.1 ht
   subst ht
   simp only[ag,ab] at hl
   simp at hl
   have hn': ¬arg=⟨#[]⟩:=hn
   have hp:pJ lW val:=⟨q,hq,by omega⟩
   simp[cy,cx,h2,hp,hq,hn',ab, -Bool.forall_bool, -Bool.exists_bool]
   repeat' first | exact hR | exact fin rfl | apply And.intro | omega
 rename_i n5
 split at ht
 ·rename_i e
  subst e
  unfold WS at ht
  split at ht
  ·rename_i k
   obtain⟨q,hq,ht⟩:=Option.map_eq_some_iff.1 ht
   subst ht
   have hi:=zc (decide (k.op=7) || decide (k.op=8)) q
   rw[ag,ab] at hl
   simp at hl
   have hp:pJ (bj n) k:=⟨q,hq,by omega⟩
   simp[cy,cx,h3,h4,hp,hq,ab, -Bool.forall_bool, -Bool.exists_bool]
   refine⟨fun h7=> ?_,fun h7=> ?_⟩
   ·have e: (decide (k.op=7) || decide (k.op=8))=decide (k.op=8):=by simp[h7]
    rw[e] at hl hR hi
    exact⟨by omega,by omega,hR⟩
   ·have e: (decide (k.op=7) || decide (k.op=8))=true:=by simp[h7]
    rw[e] at hl hR hi
    exact⟨by omega,by omega,hR⟩
  ·cases ht
 rename_i n6
 split at ht
 ·rename_i h78
  simp[cy,cx,n1,n2,n3,n4,n5,n6, -Bool.forall_bool, -Bool.exists_bool]
  intro hkl
  have hop:kI (op=7)=(⟨#[32]⟩ ++ ⟨#[if op=7 then 38 else 124]⟩) ++ ⟨#[32]⟩:=by rcases h78 with rfl | rfl <;> decide
  have hsz: (kI (op=7)).size=3:=by rcases h78 with rfl | rfl <;> decide
  refine aw (X:=B×B) [1,92] [] kids.length (fun k x=> dn (kI (op=7)) (lk op) (bj n) k (kids.drop k)=some x.2∧x.1++x.2=t) (fun x=> [(3,enc x.1)]) (fun _=> []) (E0,t) (by simp) (by simp) (by omega) (by simp) (by simp) ?_ (by simp[E0]) (by simp) ?_ ?_
  ·exact⟨ht,by simp[E0,dr]⟩
  ·rintro k ⟨acc,r⟩ hk ⟨q1,q2⟩
   simp only at q1 q2
   obtain⟨x,hx⟩:=cz hk
   obtain⟨_,hgx⟩:=List.getElem?_eq_some_iff.1 hx
   obtain⟨tk,r',c1,c2,rfl⟩:=j8 hx q1
   have hi:=zc (lk op x) tk
   rw[←q2] at hl
   simp only[ag] at hl
   have hp:pJ (bj n) x:=⟨tk,c1,by omega⟩
   simp[h3,h4,hk,hx,hgx,hp,c1,ab, -Bool.forall_bool, -Bool.exists_bool]
   clear h1 h2 h3 h4 hop
   have hm:min (op -7+1).toNat 2 - (op -7).toNat=1:=by rcases h78 with rfl | rfl <;> rfl
   have hx7: (⟨#[32]⟩:B) ++ (⟨#[38,124]⟩:B).extract (op -7).toNat (op -7+1).toNat++ ⟨#[32]⟩=kI (op=7):=by rcases h78 with rfl | rfl <;> decide
   rw[hm,hx7]
   have key: ∀ (b:Bool) (s0:B),b=lk op x→s0=acc++ (if k=0 then E0 else kI (op=7))→tk.size≤mi∧s0.size+ (eX b tk).size≤1000000000∧
    ∃y,dn (kI (op=7)) (lk op) (bj n) (k+1) (List.drop (k+1) kids)=some y∧s0++eX b tk++y=t:=by
    rintro b s0 rfl rfl
    refine⟨by omega,by rw[ag];omega,r',c2,?_⟩
    rw[←q2]
    simp only[ByteArray.append_assoc]
   refine⟨fun hk0=> ⟨by simp only[InR];omega,by simp only[InR];omega,by omega,by omega,by omega,by omega,by omega,?_,?_⟩,fun hk0=> ?_⟩
   ·rw[if_neg (by omega),hsz] at hl;omega
   ·have ks:=fun b e=> key b (acc++kI (op=7)) e (by rw[if_neg (by omega)])
    simp only[ag,hsz] at ks
    exact⟨fun h8=> ⟨fun h7=> ks _ (by simp[lk,h7,h8]),fun h7=> ks _ (by simp[lk,h7,h8])⟩,fun h8=> ks _ (by simp[lk,h8])⟩
   ·have ks:=fun b e=> key b acc e (by rw[if_pos hk0,E0,aQ])
    exact⟨fun h8=> ⟨fun h7=> ks _ (by simp[lk,h7,h8]),fun h7=> ks _ (by simp[lk,h7,h8])⟩,fun h8=> ks _ (by simp[lk,h8])⟩
  ·rintro⟨acc,r⟩ ⟨q1,q2⟩
   simp only at q1 q2
   rw[List.drop_length,dn] at q1
   obtain rfl:=Option.some.inj q1
   simp
   exact fin (by rw[←q2];simp[E0,aQ])
 ·cases ht
end Go.Gv
