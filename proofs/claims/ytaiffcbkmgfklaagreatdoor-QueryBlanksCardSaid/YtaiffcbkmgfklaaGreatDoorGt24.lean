/- A part of the framework and of the walks: T24 V18 V19 W80. -/
import Derived.Test.YtaiffcbkmgfklaaGreatDoorGt23
import Derived.Test.YtaiffcbkmgfklaaGreatDoorGt21
import Derived.Test.YtaiffcbkmgfklaaGreatDoorGt22
import Derived.Test.YtaiffcbkmgfklaaGreatDoorGt19
set_option linter.unusedSimpArgs false
set_option linter.unusedVariables false
set_option linter.unusedSectionVars false
set_option maxRecDepth 100000

namespace Go.Gv
open Cod (enc dec)
structure Rdr where
 txt:B
 fin:Int
 kind:Int
 text:B
 pos:Int
@[simp] theorem qby (s:Rdr):Rdr.mk s.txt s.fin s.kind s.text s.pos=s:=by cases s;rfl
def cI (s:Rdr):List D:= [enc s.txt,enc s.fin,enc s.kind,enc s.text,enc s.pos]
@[simp] theorem ZQ (s:Rdr):cI s= [enc s.txt,enc s.fin,enc s.kind,enc s.text,enc s.pos]:=id rfl
section
variable {Y Z:Type}
def Vv:tc Rdr:=Gf cI
def qaE (A:jL Z) (er:Y→D) (pre:Rdr→Z→Prop) (post:Rdr→Z→Rdr→Y→Prop):Spc:=qbY Vv A er pre post
def qcy (er:Y→D) (pre:Rdr→Z→Prop) (post:Rdr→Z→Rdr→Y→Prop) (id b:Nat) (r:Option Res) (o:Option Z) (H:aa) (K:D→aa→Prop):Prop:=
 ∃x,r=some (.box b (cI x))∧lc o fun z=> pre x z∧ ∀x' y,post x z x' y→K (er y) (ak H id (some (.box b (cI x'))))
theorem At {x y:Rdr} (h:cI x=cI y):x=y:=by
 obtain⟨l,a,d,e,f⟩:=x
 obtain⟨l',a',d',e',f'⟩:=y
 simp only[cI,List.cons.injEq] at h
 obtain⟨h1,h2,h3,h4,h5,_⟩:=h
 have h1:=pE h1
 have h2:=pE h2
 have h3:=pE h3
 have h4:=pE h4
 have h5:=pE h5
 subst h1;subst h2;subst h3;subst h4;subst h5
 rfl
@[simp] theorem Rb (A:jL Z) (er:Y→D) (pre:Rdr→Z→Prop) (post:Rdr→Z→Rdr→Y→Prop) (d i b:Nat) (ds:List D) (H:aa) (K:D→aa→Prop): (qaE A er pre post).pt d (.bptr i b 0::ds) H K=qcy er pre post i b (H i) (A.dec ds) H K:=by
 refine propext ⟨fun h=> ?_,fun h=> ?_⟩
 ·obtain⟨id,b',x,z,ds',h1,h2,h3,h4,h5,h6,h7⟩:=h
  cases h1
  refine⟨x,h3,?_⟩
  rw[h2]
  exact⟨h6,h7⟩
 ·obtain⟨x,h1,h2⟩:=h
  cases hz:A.dec ds with
  | none=> rw[hz] at h2;exact h2.elim
  | some z=> rw[hz] at h2;exact⟨i,b,x,z,ds,rfl,hz,h1,fun p hp=> by simp[Vv,Gf] at hp,by simp[Vv,Gf],h2.1,h2.2⟩
def yQ (er:Y→D) (b:Nat) (post:Rdr→Y→Prop) (r:D) (H:aa):Prop:=VX Vv er b post r H
theorem gg {er:Y→D} {b:Nat} {post:Rdr→Y→Prop} {r:D} {H:aa} (x:Rdr) (y:Y) (hr:FrzTo (fun i=> if i=0 then none else H i) r (er y)) (h0:H 0=some (.box b (cI x))) (hq:post x y):yQ er b post r H:=
 ⟨x,y,by simpa [Vv,Gf] using hr,h0,fun p hp=> by simp[Vv,Gf] at hp,hq⟩
def qi (cc:CC) (rs:List aK) (S:Nat→Spc) (A:jL Z) (er:Y→D) (pre:Rdr→Z→Prop) (post:Rdr→Z→Rdr→Y→Prop):Prop:=
 ∀b x z,pre x z→vc S cc (tO rs fun r H'=> yQ er b (post x z) r H') (d4 (.bptr 0 b 0::A.view z)) (ak cu 0 (some (.box b (cI x))))
variable {P:Program} {S:Nat→Spc} {f:Nat} {im:List Nat} {cc:CC} {rs:List aK} {N:Nat}
theorem LO {A:jL Z} {er:Y→D} {pre:Rdr→Z→Prop} {post:Rdr→Z→Rdr→Y→Prop} (hS: ∀f,Tri P f (S f).pt) (h:aS P f im cc rs N) (hN: ∀z,(A.view z).length+1≤N) (hw:qi cc rs S A er pre post):Tri P f (qaE A er pre post).pt:=
 LR (by simp[Vv,Gf]) hS h hN fun b x z hp=> hw b x z hp
end
section
variable {Y Z:Type}
def TD (A:jL Z) (er:Y→D) (F:Rdr→Z→Option (Rdr×Y)):Spc:=qaE A er (fun s z=> ∃r,F s z=some r) (fun s z s' y=> F s z=some (s',y))
def Ra (er:Y→D) (F:Rdr→Z→Option (Rdr×Y)) (id b:Nat) (r:Option Res) (o:Option Z) (H:aa) (K:D→aa→Prop):Prop:=
 ∃x,r=some (.box b (cI x))∧lc o fun z=> lc (F x z) fun q=> K (er q.2) (ak H id (some (.box b (cI q.1))))
@[congr] theorem qaD {er:Y→D} {F:Rdr→Z→Option (Rdr×Y)} {id b:Nat} {r r':Option Res} {o o':Option Z} {H:aa} {K:D→aa→Prop} (h1:r=r') (h2:o=o'):Ra er F id b r o H K=Ra er F id b r' o' H K:=by subst h1;subst h2;rfl
theorem Y1 {F:Option (Rdr×Y)} {k:Rdr→Y→Prop} : ((∃r,F=some r)∧ ∀x' y,F=some (x',y)→k x' y)=lc F fun q=> k q.1 q.2:=by
 cases F with
 | none=>
   refine propext (Iff.intro (fun h=> ?_) (fun h=> ?_))
   ·obtain⟨⟨r,h⟩,_⟩:=h
    cases h
   ·exact False.elim h
 | some r=>
   refine propext (Iff.intro (fun h=> h.2 _ _ rfl) (fun h=> ⟨⟨_,rfl⟩,fun x' y e=> ?_⟩))
   cases e
   exact h
@[simp] theorem qcz (A:jL Z) (er:Y→D) (F:Rdr→Z→Option (Rdr×Y)) (d i b:Nat) (ds:List D) (H:aa) (K:D→aa→Prop): (TD A er F).pt d (.bptr i b 0::ds) H K=Ra er F i b (H i) (A.dec ds) H K:=by
 unfold TD Ra
 rw[Rb]
 unfold qcy
 refine propext (exists_congr fun x=> and_congr_right fun _=> ?_)
 cases A.dec ds with
 | none=> exact Iff.rfl
 | some z=> exact iff_of_eq Y1
@[simp] theorem qcA (er:Y→D) (F:Rdr→Z→Option (Rdr×Y)) (id b:Nat) (l:B) (p dp:Int) (e:B) (f:Int) (o:Option Z) (H:aa) (K:D→aa→Prop):
 Ra er F id b (some (.box b [.v (.string l), .v (.int .i64 p), .v (.int .i64 dp), .v (.string e), .v (.int .i64 f)])) o H K=lc o fun z=> lc (F ⟨l,p,dp,e,f⟩ z) fun q=> K (er q.2) (ak H id (some (.box b (cI q.1)))):=by
 refine propext ⟨fun⟨x,h1,h2⟩=> ?_,fun h=> ⟨⟨l,p,dp,e,f⟩,rfl,h⟩⟩
 have e1:cI ⟨l,p,dp,e,f⟩=cI x:=by
  have:=Option.some.inj h1
  exact(Res.box.inj this).2
 have:=At e1
 subst this
 exact h2
variable {P:Program} {S:Nat→Spc} {f:Nat} {im:List Nat} {cc:CC} {rs:List aK} {N:Nat}
theorem hY {A:jL Z} {er:Y→D} {F:Rdr→Z→Option (Rdr×Y)} (hS: ∀f,Tri P f (S f).pt) (h:aS P f im cc rs N) (hN: ∀z,(A.view z).length+1≤N)
 (hw:qi cc rs S A er (fun s z=> ∃r,F s z=some r) (fun s z s' y=> F s z=some (s',y))):Tri P f (TD A er F).pt:=LO hS h hN hw
end
end Go.Gv

namespace Go.Gv
def pA (s:Rdr):Option Rdr:=if(0≤s.fin∧s.fin≤s.txt.size)∧s.txt.size≤100000 then some ⟨s.txt,(bV s.txt s.fin.toNat).2,(bV s.txt s.fin.toNat).1.kind,(bV s.txt s.fin.toNat).1.text,(bV s.txt s.fin.toNat).1.pos⟩ else none
def Ds (s:Rdr):Option Qc:=if(0≤s.fin∧s.fin≤s.txt.size)∧s.txt.size≤100000 then some (bV s.txt s.fin.toNat).1 else none
def bX (s:Rdr) (t:B):Bool:=decide (s.kind=5) && decide (s.text=t)
def ms (s:Rdr) (t:B):Option (Rdr×Bool):=if bX s t then(pA s).map fun x=> (x,true) else some (s,false)
def d6 (s:Rdr) (l:List B):Bool:=decide (s.kind=2) && l.any (fun z=> decide (s.text=z))
section
variable (N:Rdr→Option (Rdr×Cond)) (O:Rdr→Option (Rdr×Cond))
end
section
variable (A:Rdr→Bool→Option (Rdr×Pat)) (O:Rdr→Option (Rdr×Cond))
def Gp:List B:= [⟨#[119,105,116,104,105,110]⟩,⟨#[99,111,110,116,97,105,110,105,110,103]⟩,⟨#[111,118,101,114,108,97,112,112,105,110,103]⟩,⟨#[115,116,114,97,116,101,103,121]⟩]
def mq (s:Rdr) (inner:Bool):Option Bool:=
 if s.kind=4 then some true else if s.kind=2 then(Ds s).map fun n=> (inner || !d6 s Gp) || (decide (n.kind=5) && decide (n.text=⟨#[58]⟩))
 else some (bX s ⟨#[91]⟩ || bX s ⟨#[60]⟩ || bX s ⟨#[60,47]⟩ || bX s ⟨#[40]⟩)
end
def fh:Glob:=⟨0,E0,E0,E0,E0,E0,false,0,0, [], []⟩
end Go.Gv

namespace Go.Gv
def t_word:B:=⟨#[119,111,114,100]⟩
def QN:B:=⟨#[116,97,103]⟩
def t_feat:B:=⟨#[102,101,97,116]⟩
def VO:List B:= [⟨#[97]⟩,⟨#[98]⟩,⟨#[97,46,42]⟩,⟨#[91,97,98,93]⟩]
def Ln:List B:= [⟨#[97]⟩,⟨#[98]⟩,⟨#[97,46,42]⟩,⟨#[91,97,98,93]⟩,⟨#[88]⟩,⟨#[]⟩,⟨#[99,63]⟩,⟨#[97,124,98]⟩,⟨#[89]⟩,⟨#[97,124,88]⟩]
def A2:List B:= [t_word,QN]
def VY:List B:= [⟨#[112]⟩,⟨#[113]⟩]
def XQ:List B:= [⟨#[49]⟩,⟨#[50]⟩]
def t_n:B:=⟨#[110]⟩
inductive GA (lb:List B):Cond→Prop
 | val (n v:B) (f:Bool) (h1:n∈A2) (h2:v∈Ln):GA lb ⟨2,n,E0,v,E0,f, []⟩
 | feat (v:B) (h:v∈VY):GA lb ⟨3,t_feat,E0,v,E0,false, []⟩
 | same (n l a:B) (h1:n∈A2) (h2:l∈lb) (h3:a∈A2):GA lb ⟨4,n,a,E0,l,false, []⟩
 | reg (n:B) (h:n∈pH):GA lb ⟨5,n,E0,E0,E0,false, []⟩
 | regk (n v:B) (h1:n∈pH) (h2:v∈XQ):GA lb ⟨5,n,t_n,v,E0,false, []⟩
inductive GI (lb:List B):Nat→Cond→Prop
 | atom (n:Nat) (c:Cond) (h:GA lb c):GI lb n c
 | not (n:Nat) (k:Cond) (h:GI lb n k):GI lb (n+1) ⟨6,E0,E0,E0,E0,false, [k]⟩
 | two (n:Nat) (op:Int) (a b:Cond) (ho:op=7∨op=8) (h1:GI lb n a) (h2:GI lb n b):GI lb (n+1) ⟨op,E0,E0,E0,E0,false, [a,b]⟩
inductive GC (lb:List B) (n:Nat):Cond→Prop
 | any:GC lb n ⟨1,E0,E0,E0,E0,false, []⟩
 | top (v:B) (f:Bool) (h:v∈VO):GC lb n ⟨2,E0,E0,v,E0,f, []⟩
 | inner (c:Cond) (h:GI lb n c):GC lb n c
theorem IL {lb:List B} {c:Cond} (h:GA lb c):c.kids= []:=by cases h <;> rfl
theorem NK {lb:List B} : ∀ {n:Nat} {c:Cond},GI lb n c→CS n c
 | _,_, .atom n c h=> MP (IL h)
 | _,_, .not n k h=> Xy rfl rfl (NK h)
 | _,_, .two n op a b _ h1 h2=> Xx rfl rfl (NK h1) (NK h2)
theorem Zq {lb:List B} {n:Nat} {c:Cond} (h:GC lb n c):CS n c:=by
 cases h with
 | any=> exact MP rfl
 | top v f h=> exact MP rfl
 | inner c h=> exact NK h
def WX (l:List B) (x:B):Bool:=l.any fun z=> decide (z=x)
theorem Kr (l:List B) (x:B):WX l x=true↔x∈l:=by
 unfold WX
 rw[List.any_eq_true]
 exact⟨fun⟨z,h1,h2⟩=> by rw[decide_eq_true_eq] at h2;rwa [←h2],fun h=> ⟨x,h,decide_eq_true rfl⟩⟩
instance decMem (l:List B) (x:B):Decidable (x∈l):=if h:WX l x=true then .isTrue ((Kr l x).1 h) else .isFalse fun hx=> h ((Kr l x).2 hx)
mutual
def qC (lb:List B):Cond→Cond
 | .mk op n a v l f ks=> if op=4 then(if l∈lb then .mk op n a v l f ks else⟨2,n,E0,⟨#[97,124,88]⟩,E0,false, []⟩) else .mk op n a v l f (JT lb ks)
def JT (lb:List B):List Cond→List Cond
 | []=> []
 | k::ks=> qC lb k::JT lb ks
end
theorem Gx (lb:List B): ∀l:List Cond,JT lb l=l.map (qC lb)
 | []=> by rw[JT];rfl
 | k::l=> by rw[JT,Gx lb l];rfl
theorem jg (lb:List B) (c:Cond):qC lb c=if c.op=4 then(if c.lab∈lb then c else⟨2,c.name,E0,⟨#[97,124,88]⟩,E0,false, []⟩) else⟨c.op,c.name,c.arg,c.val,c.lab,c.fold,c.kids.map (qC lb)⟩:=by
 cases c;rw[qC,Gx]
theorem Me (lb:List B):qC lb Cond0=Cond0:=by
 rw[jg,if_neg (show ¬Cond0.op=4 from by decide)]
 rfl
mutual
def jW (lb:List B):Pat→Pat
 | .mk op c l r mn mx ks=> ⟨op,qC lb c,l,r,mn,mx,E4 lb ks⟩
def E4 (lb:List B):List Pat→List Pat
 | []=> []
 | k::ks=> jW lb k::E4 lb ks
end
theorem E1 (lb:List B): ∀l:List Pat,E4 lb l=l.map (jW lb)
 | []=> by rw[E4];rfl
 | k::l=> by rw[E4,E1 lb l];rfl
theorem mI (lb:List B) (p:Pat):jW lb p=⟨p.op,qC lb p.cond,p.lab,p.reg,p.mn,p.mx,p.kids.map (jW lb)⟩:=by
 cases p;rw[jW,E1]
def Lk (out:List B) (x:B):List B:=if x∈out then out else out++ [x]
mutual
def i7:Pat→List B→List B
 | .mk op c l r mn mx ks,out=> if op=1∧l≠E0 then Lk out l else Le ks out
def Le:List Pat→List B→List B
 | [],out=> out
 | k::ks,out=> Le ks (i7 k out)
end
theorem EZ: ∀ (l:List Pat) (out:List B),Le l out=l.foldl (fun o k=> i7 k o) out
 | [],out=> by rw[Le];rfl
 | k::l,out=> by rw[Le,EZ l];rfl
theorem nw (p:Pat) (out:List B):i7 p out=if p.op=1∧p.lab≠E0 then Lk out p.lab else p.kids.foldl (fun o k=> i7 k o) out:=by
 cases p;rw[i7,EZ]
theorem IJ {lb lb':List B} : ∀ {n:Nat} {c:Cond},GI lb n c→GI lb' n (qC lb' c)
 | _,_, .atom n c h=> by
   cases h with
   | val nm v f h1 h2=> rw[jg,if_neg (by decide: ¬ (2:Int)=4)];exact .atom _ _ (.val nm v f h1 h2)
   | feat v h=> rw[jg,if_neg (by decide: ¬ (3:Int)=4)];exact .atom _ _ (.feat v h)
   | same nm l a h1 h2 h3=>
     rw[jg,if_pos rfl]
     split
     ·rename_i hl;exact .atom _ _ (.same nm l a h1 hl h3)
     ·exact .atom _ _ (.val nm _ false h1 (by simp[Ln]))
   | reg nm h=> rw[jg,if_neg (by decide: ¬ (5:Int)=4)];exact .atom _ _ (.reg nm h)
   | regk nm v h1 h2=> rw[jg,if_neg (by decide: ¬ (5:Int)=4)];exact .atom _ _ (.regk nm v h1 h2)
 | _,_, .not n k h=> by
   rw[jg,if_neg (by decide: ¬ (6:Int)=4)]
   exact .not n _ (IJ h)
 | _,_, .two n op a b ho h1 h2=> by
   rw[jg,if_neg (show ¬op=4 by omega)]
   exact .two n op _ _ ho (IJ h1) (IJ h2)
theorem Xa {lb lb':List B} {n:Nat} {c:Cond} (h:GC lb n c):GC lb' n (qC lb' c):=by
 cases h with
 | any=> rw[jg,if_neg (by decide: ¬ (1:Int)=4)];exact .any
 | top v f h=> rw[jg,if_neg (by decide: ¬ (2:Int)=4)];exact .top v f h
 | inner c h=> exact .inner _ (IJ h)
theorem Qi {lb lb':List B} {p:Pat} (h:Yt lb p):Yt lb (jW lb' p):=by
 rw[mI]
 rcases h with⟨h1,h2,h3,h4,h5,h6⟩ | ⟨h1,h2,h3,h4,h5,h6,h7⟩
 ·exact .inl ⟨h1,h2,h3,h4,h5,by show p.kids.map _= [];rw[h6];rfl⟩
 ·exact .inr ⟨h1,by show qC lb' p.cond=_;rw[h2,Me],h3,h4,h5,h6,by show p.kids.map _= [];rw[h7];rfl⟩
theorem TL {lb lb':List B} : ∀n p,WP lb n p→WP lb n (jW lb' p):=by
 refine Ca fun n p hp ih=> ?_
 rcases th hp with hp | ⟨m,rfl,(⟨h1,h2,h3,h4,h5,h6,a,b,h7,ha,hb⟩ | ⟨h1,h2,h3,h4,h5,a,h7,ha⟩)⟩
 ·exact Yx (Qi hp)
 ·obtain⟨m1,e1,_,a1⟩:=ih a (by rw[h7];simp)
  obtain⟨m2,e2,_,a2⟩:=ih b (by rw[h7];simp)
  have e1:m1=m:=by omega
  have e2:m2=m:=by omega
  subst e1;subst e2
  rw[mI]
  exact .inr (.inl ⟨h1,by show qC lb' p.cond=_;rw[h2,Me],h3,h4,h5,h6,_,_,by show p.kids.map _=_;rw[h7];rfl,a1,a2⟩)
 ·obtain⟨m1,e1,_,a1⟩:=ih a (by rw[h7];simp)
  have e1:m1=m:=by omega
  subst e1
  rw[mI]
  exact .inr (.inr ⟨h1,by show qC lb' p.cond=_;rw[h2,Me],h3,h4,h5,_,by show p.kids.map _=_;rw[h7];rfl,a1⟩)
theorem Kk (lb:List B) (p:Pat):aQ (jW lb p)=(aQ p).map (jW lb):=by
 induction p using vf with | _ p ih=> ?_
 rw[bq,bq p,mI]
 simp only
 split
 ·rw[List.map_singleton,mI]
 ·rw[List.flatMap_map,List.map_flatMap]
  have: ∀ks:List Pat,(∀k∈ks,aQ (jW lb k)=(aQ k).map (jW lb))→ks.flatMap (fun a=> aQ (jW lb a))=ks.flatMap (fun a=> (aQ a).map (jW lb)):=by
   intro ks
   induction ks with
   | nil=> intro _;rfl
   | cons k ks ihk=>
     intro h
     rw[List.flatMap_cons,List.flatMap_cons,h k (by simp),ihk fun z hz=> h z (by simp[hz])]
  exact this p.kids ih
theorem SR (lb:List B) (p:Pat): ∀out,i7 (jW lb p) out=i7 p out:=by
 induction p using vf with | _ p ih=> ?_
 intro out
 rw[nw,nw p,mI]
 simp only
 split
 ·rfl
 ·have: ∀ (ks:List Pat) (o:List B),(∀k∈ks,∀out,i7 (jW lb k) out=i7 k out)→(ks.map (jW lb)).foldl (fun o k=> i7 k o) o=ks.foldl (fun o k=> i7 k o) o:=by
   intro ks
   induction ks with
   | nil=> intro o _;rfl
   | cons k ks ihk=>
     intro o h
     rw[List.map_cons,List.foldl_cons,List.foldl_cons,h k (by simp),ihk _ fun z hz=> h z (by simp[hz])]
  exact this p.kids out ih
theorem Tg {out:List B} {x y:B} (h:y∈Lk out x):y∈out∨y=x:=by
 unfold Lk at h
 split at h
 ·exact .inl h
 ·rcases List.mem_append.1 h with h | h
  ·exact .inl h
  ·exact .inr (by simpa using h)
theorem Vh {lb:List B} : ∀n p,WP lb n p→ ∀out,(∀y∈i7 p out,y∈out∨y∈lb):=by
 refine Ca fun n p hp ih=> fun out y hy=> ?_
 rw[nw] at hy
 split at hy
 ·rename_i h
  rcases Tg hy with h1 | rfl
  ·exact .inl h1
  ·rcases th hp with(⟨h1,h2,_⟩ | ⟨h1,_⟩) | ⟨m,rfl,(⟨h1,_⟩ | ⟨h1,_⟩)⟩
   ·exact .inr (h2.resolve_left h.2)
   ·omega
   ·omega
   ·omega
 ·have: ∀ (ks:List Pat) (o:List B),(∀k∈ks,k∈p.kids)→y∈ks.foldl (fun o k=> i7 k o) o→y∈o∨y∈lb:=by
   intro ks
   induction ks with
   | nil=> intro o _ h;exact .inl h
   | cons k ks ihk=>
     intro o hk h
     rw[List.foldl_cons] at h
     rcases ihk _ (fun z hz=> hk z (by simp[hz])) h with h1 | h1
     ·obtain⟨m,_,_,h2⟩:=ih k (hk k (by simp))
      exact h2 o y h1
     ·exact .inr h1
  exact this p.kids out (fun _ h=> h) hy
def VV:List B:= [⟨#[97]⟩,⟨#[98,124,99]⟩,⟨#[46]⟩]
def Tk:List B:= [⟨#[111,98,106]⟩,⟨#[100,101,116]⟩,⟨#[]⟩]
def Tt:List B:= [⟨#[83]⟩,⟨#[78,80]⟩,⟨#[86,80]⟩]
inductive GG (lb:List B):Nat→Glob→Prop
 | bound (n:Nat) (a:B) (h:a∈lb):GG lb n ⟨1,a,E0,E0,E0,E0,false,0,0, [], []⟩
 | val (n:Nat) (a v:B) (f:Bool) (h1:a∈lb) (h2:v∈VV):GG lb n ⟨2,a,E0,t_word,E0,v,f,0,0, [], []⟩
 | same (n:Nat) (a b g:B) (h1:a∈lb) (h2:b∈lb) (h3:g∈A2):GG lb n ⟨3,a,b,t_word,g,E0,false,0,0, [], []⟩
 | dist (n:Nat) (a b:B) (mn mx:Int) (h1:a∈lb) (h2:b∈lb) (h3: -2≤mn) (h4:mn≤2) (h5:mn≤mx) (h6:mx≤mn+3):GG lb n ⟨4,a,b,E0,E0,E0,false,mn,mx, [], []⟩
 | reg (n:Nat) (a b t:B) (h1:a∈lb) (h2:b∈lb) (h3:t∈pH):GG lb n ⟨5,a,b,t,E0,E0,false,0,0, [], []⟩
 | head (n:Nat) (op:Int) (a b:B) (ho:op=6∨op=7) (h1:a∈lb) (h2:b∈lb):GG lb n ⟨op,a,b,E0,E0,E0,false,0,0, [], []⟩
 | path (n:Nat) (a b:B) (l:List B) (h1:a∈lb) (h2:b∈lb) (h3:l.length≤2) (h4: ∀x∈l,x∈Tk):GG lb n ⟨8,a,b,E0,E0,E0,false,0,0,l, []⟩
 | node (n:Nat) (a b t:B) (h1:a∈lb) (h2:b∈lb) (h3:t∈Tt):GG lb n ⟨9,a,b,t,E0,E0,false,0,0, [], []⟩
 | depth (n:Nat) (a:B) (mn mx:Int) (h1:a∈lb) (h3:0≤mn) (h4:mn≤2) (h5:mn≤mx) (h6:mx≤mn+1):GG lb n ⟨10,a,E0,E0,E0,E0,false,mn,mx, [], []⟩
 | not (n:Nat) (k:Glob) (h:GG lb n k):GG lb (n+1) ⟨11,E0,E0,E0,E0,E0,false,0,0, [], [k]⟩
 | two (n:Nat) (op:Int) (a b:Glob) (ho:op=12∨op=13) (h1:GG lb n a) (h2:GG lb n b):GG lb (n+1) ⟨op,E0,E0,E0,E0,E0,false,0,0, [], [a,b]⟩
def GF (f:jK):Prop:=(f.op=1∨f.op=2∨f.op=3)∧f.reg∈pH
structure GQ (n:Nat) (q:Qry):Prop where
 lab: ∃lb,Hg lb∧WP lb n q.pat
 cond: ∀y∈aQ q.pat,GC (i7 q.pat []) 1 y.cond
 glob:q.glob=fh∨GG (i7 q.pat []) 2 q.glob
 filts:q.filts.length≤1∧ ∀f∈q.filts,GF f
 strat:0≤q.strat∧q.strat < 4
end Go.Gv

namespace Go.Gv
open Cod (enc dec)
variable {S S0:Nat→Spc}
def M3 (x:List Int×Int×List B) (y:Cond):Prop:=GI x.2.2 x.2.1.toNat y
abbrev wD (n:Nat):Spc:=dt (aT (a2 Int (List B))) (He n) (enc (X:=Cond)) M3
theorem qiH {i:Nat} {a:B} (h: [(⟨#[119,111,114,100]⟩:B),⟨#[119,111,114,100]⟩,⟨#[116,97,103]⟩][i]?=some a):a∈A2:=by
 have:=cn h
 simpa [A2,t_word,QN] using this
theorem qfp {i:Nat} {a:B} (h: [(⟨#[119,111,114,100]⟩:B),⟨#[116,97,103]⟩][i]?=some a):a∈A2:=cn h
theorem qfo {i:Nat} {a:B} (h: [(⟨#[112]⟩:B),⟨#[113]⟩][i]?=some a):a∈VY:=cn h
theorem qfn {i:Nat} {a:B} (h: [(⟨#[49]⟩:B),⟨#[50]⟩][i]?=some a):a∈XQ:=cn h
theorem qh1 {i:Nat} {a:B} (h: [(⟨#[97]⟩:B),⟨#[98]⟩,⟨#[97,46,42]⟩,⟨#[91,97,98,93]⟩][i]?=some a):a∈VO:=cn h
theorem qiG {i:Nat} {a:B} (h: [(⟨#[97]⟩:B),⟨#[98]⟩,⟨#[97,46,42]⟩,⟨#[91,97,98,93]⟩,⟨#[88]⟩,⟨#[]⟩,⟨#[99,63]⟩,⟨#[97,124,98]⟩][i]?=some a):a∈Ln:=by
 have:=cn h
 simp only[Ln,List.mem_cons,List.not_mem_nil,or_false] at this ⊢
 rcases this with h | h | h | h | h | h | h | h <;> simp[h]
theorem LF (n:Nat) (h1:S aj=s_m_Next) (h2:S fM=je) (h3:S cA=wD n):Walk na mV S (aT (a2 Int (List B))) (He (n+1)) (enc (X:=Cond)) M3:=by
 rintro⟨L,deep,lb⟩ ⟨hn,hd0,hd1,hlb⟩
 simp only at hn hd0 hd1 hlb
 simp[na,mV,h1]
 intro b6 k0 hk0 hk1
 refine gO (X:=Int) [0,1,2,6] [6] (fun k=> 0≤k∧k < 12∧(deep < 1→k < 8)) (fun k=> [(7,enc k)]) (fun _=> []) ?_ ?_
 ·simp
  have:k0.tmod 8=k0 % 8:=Int.tmod_eq_emod_of_nonneg hk0
  rw[this]
  omega
 rintro k ⟨q0,q1,q2⟩
 refine gO (X:=Unit) [0,1,2,6,7] [6] (fun _=> 10≤k) (fun _=> []) (fun _=> []) ?_ ?_
 ·simp
  refine gO (X:=Bool) [0,1,2,6,7,15] [6] (fun b=> b=decide (k < 4)) (fun b=> [(16,enc b)]) (fun _=> []) ?_ ?_
  ·simp
   repeat' first | apply And.intro | intro _
   all_goals first | omega | (rw[Bool.eq_iff_iff];simp;omega)
  rintro b hb
  simp[h1,QS,QR,YH,Vu,tB,xG, -Bool.forall_bool]
  refine⟨fun _ y hy0 hy1=> ⟨hy0,hy1,fun a ha y hy0 hy1=> ⟨hy0,hy1,fun a' ha' y hy0 hy1=> fI [] (.nil _) (.atom _ _ (.val a a' _ (qiH ha) (qiG ha')))⟩⟩,fun hb0=> ?_⟩
  rw[hb0] at hb
  have hb:4≤k:=by simpa using hb.symm
  refine⟨fun _ y hy0 hy1=> ⟨hy0,hy1,fun a ha=> fI [] (.nil _) (.atom _ _ (.feat a (qfo ha)))⟩,fun k4=> ⟨fun _ _=> ⟨fun hl y hy0 hy1=> ⟨hy0,hy1,fun a ha _=> ⟨by omega,fun y hy=> ⟨by omega,by omega,fun a' ha' y hy0 hy1=> ⟨hy0,hy1,fun a'' ha''=> fI [] (.nil _) (.atom _ _ (.same a a' a'' (qfp ha) (cn ha') (qfp ha'')))⟩⟩⟩⟩,fun _=> fI [] (.nil _) (.atom _ _ (.val QN _ false (by simp[A2]) (by simp[Ln])))⟩,fun k5=> ?_⟩⟩
  refine gO (X:=Bool) [0,1,2,6,7,15] [6] (fun b=> b=decide (k=6∨k=7)) (fun b=> [(67,enc b)]) (fun _=> []) ?_ ?_
  ·simp
   repeat' first | apply And.intro | intro _
   all_goals first | omega | (rw[Bool.eq_iff_iff];simp;omega)
  rintro b hb2
  simp[h1,h2, -Bool.forall_bool]
  refine⟨fun _ y hy0 hy1=> ⟨trivial,fun t ht b8=> ?_⟩,fun hb0=> ?_⟩
  ·refine gO (X:=B×B) [6,8] [6] (fun x=> (x.1=E0∧x.2=E0)∨(x.1=t_n∧x.2∈XQ)) (fun _=> []) (fun x=> [(8, .box b8 [.v (.int .i64 5), .v (.string t), .v (.string x.1), .v (.string x.2), .v (.string ⟨#[]⟩), .v (.bool false), .v (.slice none 0 0)])]) ?_ ?_
   ·simp[h1,QS,tB,xG]
    refine fun y hy0 hy1=> ⟨fun _ z hz0 hz1=> ⟨hz0,hz1,fun a ha=> ⟨t_n,a, .inr ⟨rfl,qfn ha⟩, .inl ⟨rfl,rfl⟩⟩⟩,fun _=> ⟨E0,E0, .inl ⟨rfl,rfl⟩, .inl ⟨rfl,rfl⟩⟩⟩
   ·rintro⟨a,v⟩ hav
    simp
    refine fI [] (.nil _) (.atom _ _ ?_)
    rcases hav with⟨rfl,rfl⟩ | ⟨rfl,hv⟩
    ·exact .reg t ht
    ·exact .regk t v ht hv
  rw[hb0] at hb2
  have hb2: ¬ (k=6∨k=7):=by simpa using hb2.symm
  refine gO (X:=Bool) [0,1,2,6,7,15] [6] (fun b=> b=decide (k=8∨k=9)) (fun b=> [(85,enc b)]) (fun _=> []) ?_ ?_
  ·simp
   repeat' first | apply And.intro | intro _
   all_goals first | omega | (rw[Bool.eq_iff_iff];simp;omega)
  rintro b hb3
  simp[h3, -Bool.forall_bool]
  have hrec:1≤deep→He n (L,deep -1,lb):=fun h=> ⟨by show(deep -1).toNat < n;omega,by show -10≤deep -1;omega,by show deep -1≤100;omega,hlb⟩
  refine⟨fun hb1=> ?_,fun hb0=> ?_⟩
  ·rw[hb1] at hb3
   have hb3:k=8∨k=9:=by simpa using hb3.symm
   have hdn:deep.toNat=(deep -1).toNat+1:=by omega
   refine⟨by simp only[InR];omega,hrec (by omega),fun y hy=> fI [y] (by simp) (by show GI lb deep.toNat _;rw[hdn];exact .not _ _ hy)⟩
  rw[hb0] at hb3
  have hb3: ¬ (k=8∨k=9):=by simpa using hb3.symm
  omega
 ·rintro -hk
  have hrec:He n (L,deep -1,lb):=⟨by show(deep -1).toNat < n;omega,by show -10≤deep -1;omega,by show deep -1≤100;omega,hlb⟩
  have hdn:deep.toNat=(deep -1).toNat+1:=by omega
  simp[h3]
  refine⟨by simp only[InR];omega,by simp only[InR];omega,by simp only[InR];omega,hrec,fun y hy=> ⟨by simp only[InR];omega,hrec,fun y' hy'=> fI [y,y'] (by simp) (by show GI lb deep.toNat _;rw[hdn];exact .two _ _ _ _ (by omega) hy hy')⟩⟩
def VR (x:List Int×Int×List B) (y:Cond):Prop:=GC x.2.2 x.2.1.toNat y
abbrev zq:Spc:=dt (aT (a2 Int (List B))) (fun x=> -10≤x.2.1∧x.2.1≤100∧x.2.2.length≤1000) (enc (X:=Cond)) VR
abbrev tF:Spc:=dt (aT (a2 Int (List B))) (fun x=> ∃n,He n x) (enc (X:=Cond)) M3
theorem Ox (h1:S aj=s_m_Next) (h3:S cA=tF):Walk o0 n0 S (aT (a2 Int (List B))) (fun x=> -10≤x.2.1∧x.2.1≤100∧x.2.2.length≤1000) (enc (X:=Cond)) VR:=by
 rintro⟨L,deep,lb⟩ ⟨hd0,hd1,hlb⟩
 simp only at hd0 hd1 hlb
 simp[o0,n0,h1]
 intro b6
 refine gO (X:=Unit) [0,1,2,6] [6] (fun _=> True) (fun _=> []) (fun _=> []) ?_ ?_
 ·simp[h1,Vu,tB,xG, -Bool.forall_bool]
  exact fun y _ _=> ⟨fun _=> fI [] (.nil _) .any,fun _=> ⟨fun _ z z0 z1=> ⟨z0,z1,fun a ha u _ _=> fI [] (.nil _) (.top a _ (qh1 ha))⟩,fun _ _ z z0 z1=> ⟨z0,z1,fun a ha u _ _=> fI [] (.nil _) (.top a _ (qh1 ha))⟩⟩⟩
 ·rintro - -
  have hrec: ∃n,He n (L,deep,lb):=⟨deep.toNat+1,Nat.lt_succ_self _,hd0,hd1,hlb⟩
  simp[h3,hrec]
  exact fun y hy=> fI y.kids (.same _) (by show GC lb deep.toNat _;rw[yB y];exact .inner _ hy)
theorem WS {p:Pat} {C:Pat→Prop} (h1: ¬p.op=1) (h2:p.kids= []): ∀y∈aQ p,C y:=by
 rw[bq,if_neg h1,h2]
 simp
theorem WQ {p:Pat} {C:Pat→Prop} (h1:p.op=1) (h:C p): ∀y∈aQ p,C y:=by
 rw[bq,if_pos h1]
 simpa using h
theorem WR {p a:Pat} {C:Pat→Prop} (h1: ¬p.op=1) (h2:p.kids= [a]) (ha: ∀y∈aQ a,C y): ∀y∈aQ p,C y:=by
 rw[bq,if_neg h1,h2]
 simpa using ha
theorem RG {p a b:Pat} {C:Pat→Prop} (h1: ¬p.op=1) (h2:p.kids= [a,b]) (ha: ∀y∈aQ a,C y) (hb: ∀y∈aQ b,C y): ∀y∈aQ p,C y:=by
 rw[bq,if_neg h1,h2]
 simp only[List.flatMap_cons,List.flatMap_nil,List.append_nil]
 intro y hy
 rcases List.mem_append.1 hy with hy | hy
 ·exact ha y hy
 ·exact hb y hy
def Fb (x:List Int×Int×List B) (p:Pat):Prop:=Z9 x p∧ ∀y∈aQ p,GC x.2.2 1 y.cond
abbrev rk (n:Nat):Spc:=dt (aT (a2 Int (List B))) (Od n) (enc (X:=Pat)) Fb
theorem Hz (n:Nat) (h1:S aj=s_m_Next) (h2:S fM=je) (h3:S jU=zq) (h4:S bv=rk n):Walk lB kY S (aT (a2 Int (List B))) (Od (n+1)) (enc (X:=Pat)) Fb:=by
 rintro⟨L,deep,lb⟩ ⟨hn,hd0,hd1,hlb⟩
 simp only at hn hd0 hd1 hlb
 simp[lB,kY,h1]
 intro b6 k0 hk0 hk1
 refine gO (X:=Int) [0,1,2,6] [6] (fun k=> 0≤k∧k < 14∧(deep < 1→k < 7)) (fun k=> [(7,enc k)]) (fun _=> []) ?_ ?_
 ·simp
  have:k0.tmod 7=k0 % 7:=Int.tmod_eq_emod_of_nonneg hk0
  rw[this]
  omega
 rintro k ⟨q0,q1,q2⟩
 refine gO (X:=Unit) [0,1,2,6] [6] (fun _=> 12≤k) (fun _=> []) (fun _=> []) ?_ ?_
 ·have hrec:1≤deep→Od n (L,deep -1,lb):=fun h=> ⟨by show(deep -1).toNat < n;omega,by show -10≤deep -1;omega,by show deep -1≤100;omega,hlb⟩
  have hdn:1≤deep→deep.toNat=(deep -1).toNat+1:=fun h=> by omega
  simp[h1,h2,h3,h4, -Bool.forall_bool]
  refine⟨fun hk=> ⟨hlb,fun c hc b8=> ?_⟩,fun hk=> ⟨fun hk7=> ⟨by simp only[InR];omega,by simp only[InR];omega,fun y _ _=> ⟨trivial,fun t ht=> vi [] [] (.nil _) (.nil _) ⟨⟨Yx (.inr ⟨by show(2+k -5=2∨2+k -5=3);omega,rfl,rfl,ht,rfl,rfl,rfl⟩),Rk NZ rfl⟩,WS (by show ¬2+k -5=1;omega) rfl⟩⟩⟩,fun hk7=> ⟨fun hk10=> ⟨by simp only[InR];omega,hrec (by omega),fun y hy=> ⟨by simp only[InR];omega,hrec (by omega),fun y' hy'=> ?_⟩⟩,fun hk10 hk12=> ⟨by simp only[InR];omega,hrec (by omega),fun y hy=> ⟨by simp only[InR];omega,hrec (by omega),fun y' hy'=> ?_⟩⟩⟩⟩⟩
  ·refine gO (X:=B) [6,8] [6] (fun x=> x=⟨#[]⟩∨x∈lb) (fun _=> []) (fun x=> [(8, .box b8 [.v (.int .i64 1), .v (.int .i64 c.op), .v (.string c.name), .v (.string c.arg), .v (.string c.val), .v (.string c.lab), .v (.bool c.fold),enc c.kids, .v (.string x), .v (.string ⟨#[]⟩), .v (.int .i64 0), .v (.int .i64 0), .v (.slice none 0 0)])]) ?_ ?_
   ·simp[h1]
    exact fun _ h0 y _ _ _ _=> ⟨by omega,fun z hz=> ⟨by omega,by omega,fun a ha=> .inr ⟨a,cn ha, .inl rfl⟩⟩⟩
   ·rintro x hx
    simp
    exact vi c.kids [] (.same _) (.nil _) ⟨⟨Yx (.inl ⟨rfl,hx,rfl,rfl,rfl,rfl⟩),Rk ⟨_,U5 (d:=c) rfl (Zq hc)⟩ rfl⟩,WQ rfl (by show GC lb 1 _;rw[yB c];exact hc)⟩
  ·refine vi [] [y,y'] (.nil _) (by simp) ?_
   refine⟨⟨?_,Rj (hdn (by omega)) NZ rfl hy.1.2 hy'.1.2⟩,RG (by show ¬ (4:Int)=1;decide) rfl hy.2 hy'.2⟩
   show WP lb deep.toNat _
   rw[hdn (by omega)]
   exact .inr (.inl ⟨.inl rfl,rfl,rfl,rfl,rfl,rfl,y,y',rfl,hy.1.1,hy'.1.1⟩)
  ·refine vi [] [y,y'] (.nil _) (by simp) ?_
   refine⟨⟨?_,Rj (hdn (by omega)) NZ rfl hy.1.2 hy'.1.2⟩,RG (by show ¬ (5:Int)=1;decide) rfl hy.2 hy'.2⟩
   show WP lb deep.toNat _
   rw[hdn (by omega)]
   exact .inr (.inl ⟨.inr rfl,rfl,rfl,rfl,rfl,rfl,y,y',rfl,hy.1.1,hy'.1.1⟩)
 ·rintro -hk
  have hrec:Od n (L,deep -1,lb):=⟨by show(deep -1).toNat < n;omega,by show -10≤deep -1;omega,by show deep -1≤100;omega,hlb⟩
  have hdn:deep.toNat=(deep -1).toNat+1:=by omega
  have fin: ∀ (mn mx:Int) (y:Pat) (H:aa),(mn,mx) ∈Reps→Fb (L,deep -1,lb) y→Fin enc (Fb (L,deep,lb)) (.agg [.v (.int .i64 6), .v (.int .i64 0), .v (.string ⟨#[]⟩), .v (.string ⟨#[]⟩), .v (.string ⟨#[]⟩), .v (.string ⟨#[]⟩), .v (.bool false), .v (.slice none 0 0), .v (.string ⟨#[]⟩), .v (.string ⟨#[]⟩), .v (.int .i64 mn), .v (.int .i64 mx), .list 13 [enc y]]) H:=by
   intro mn mx y H hm hy
   refine vi [] [y] (.nil _) (by simp) ?_
   refine⟨⟨?_,WA hdn NZ rfl hy.1.2⟩,WR (by show ¬ (6:Int)=1;decide) rfl hy.2⟩
   show WP lb deep.toNat _
   rw[hdn]
   exact .inr (.inr ⟨rfl,rfl,rfl,rfl,hm,y,rfl,hy.1.1⟩)
  simp only[IT] at fin
  simp[h1,h4]
  intro y hy0 hy1
  refine⟨hy0,hy1,fun d hd=> ?_⟩
  have:y=0∨y=1∨y=2∨y=3∨y=4∨y=5∨y=6:=by omega
  rcases this with rfl | rfl | rfl | rfl | rfl | rfl | rfl
  all_goals (simp at hd;subst hd;simp[h4])
  all_goals exact⟨by simp only[InR];omega,hrec,fun y hy=> fin _ _ y _ (by simp[Reps]) hy⟩
end Go.Gv
