/- A part of the framework and of the walks: W31 V15 V16 T24 V18 V19 W80 W81 W82. -/
import Derived.Test.YtaiffcbkmgfklaaGreatDoorGu13
import Derived.Test.YtaiffcbkmgfklaaGreatDoorGu11
import Derived.Test.YtaiffcbkmgfklaaGreatDoorGu10
import Derived.Test.YtaiffcbkmgfklaaGreatDoorGu12
set_option linter.unusedSimpArgs false
set_option linter.unusedVariables false
set_option maxRecDepth 100000
set_option linter.unusedSectionVars false

namespace Go.Gv
open Cod (enc dec)
variable {S S0:Nat→Spc}
def tr (c:Int):Bool:=decide (65≤c∧c≤90∨97≤c∧c≤122∨c=95)
def LZ (c:Int):Bool:=tr c || decide (48≤c∧c≤57∨c=45)
def H7 (s:B):Prop:=1≤s.size∧s.size≤32∧(∀c:UInt8,s.data[0]?=some c→tr c.toNat=true)∧ ∀ (k:Nat) (c:UInt8),s.data[k]?=some c→LZ c.toNat=true
noncomputable def eL (s:B):Bool:= @decide (H7 s) (Classical.propDecidable _)
theorem yG (s:B):eL s=true↔H7 s:= @decide_eq_true_iff (H7 s) (Classical.propDecidable _)
theorem Uf {s:B} (h:H7 s):true=eL s:=((yG s).2 h).symm
theorem Af {s:B} (h: ¬H7 s):false=eL s:=by
 rcases hb:eL s
 ·rfl
 ·exact absurd ((yG s).1 hb) h
abbrev oh:Spc:=dG (a1 U8) (fun _=> True) (enc (X:=Bool)) fun x y=> y=tr x.val
abbrev F1:Spc:=dG (a1 U8) (fun _=> True) (enc (X:=Bool)) fun x y=> y=LZ x.val
abbrev FW:Spc:=dG (a1 B) (fun _=> True) (enc (X:=Bool)) fun x y=> y=eL x
theorem Ef:Walk nQ ny S (a1 U8) (fun _=> True) (enc (X:=Bool)) fun x y=> y=tr x.val:=by
 rintro⟨c⟩ -
 simp[nQ,ny,tr]
 repeat' first | apply And.intro | intro _
 all_goals first | omega | (rw[Bool.eq_iff_iff];simp;omega)
theorem Ee (h1:S d6=oh):Walk nP nw S (a1 U8) (fun _=> True) (enc (X:=Bool)) fun x y=> y=LZ x.val:=by
 rintro⟨c⟩ -
 simp[nP,nw,h1,LZ, -Bool.forall_bool]
 rcases hb:tr c <;> simp[hb]
 repeat' first | apply And.intro | intro _
 all_goals first | omega | (rw[Bool.eq_iff_iff];simp;omega)
theorem yF (h1:S d6=oh) (h2:S iq=F1):Walk kG kp S (a1 B) (fun _=> True) (enc (X:=Bool)) fun x y=> y=eL x:=by
 rintro s -
 simp[kG,kp,h1,h2]
 refine fun _=> ⟨fun k1 _=> ⟨fun k2=> ⟨by omega,fun c hc=> ⟨fun hb=> (Af fun h=> by rw[h.2.2.1 c hc] at hb;cases hb).symm,fun hb _=> ?_⟩⟩,fun k2=> (Af fun h=> by have:=h.2.1;omega).symm⟩,fun k1=> (Af fun h=> by have:=h.1;omega).symm⟩
 refine aO (X:=Unit) [0] [] s.size (fun k _=> ∀ (j:Nat) (c:UInt8),j < k→s.data[j]?=some c→LZ c.toNat=true) (fun _=> []) (fun _=> []) () (by simp) (by simp) (by omega) (by simp) (by simp) (by intro j d hj;omega) (by simp) (by simp) ?_ ?_
 ·rintro k -hk h5
  simp[h2]
  refine⟨hk,fun d hd=> ⟨fun hf=> (Af fun h=> by rw[h.2.2.2 k d hd] at hf;cases hf).symm,fun ht j e hj he=> ?_⟩⟩
  by_cases e1:j=k
  ·subst e1
   rw[hd] at he
   cases he
   exact ht
  ·exact h5 j e (by omega) he
 ·rintro -h5
  simp
  refine(Uf ⟨by omega,by omega,fun d hd=> by rw[hc] at hd;cases hd;exact hb,fun j e he=> h5 j e ?_ he⟩).symm
  exact(Array.getElem?_eq_some_iff.1 he).1
end Go.Gv

namespace Go.Gv
def r7 (p:U8→Bool):Nat→B→Nat→Nat
 | 0,_,i=> i
 | n+1,s,i=> match s.data[i]? with
   | some c=> if p ⟨c.toNat⟩ then r7 p n s (i+1) else i
   | none=> i
def o5 (p:U8→Bool) (s:B) (i:Nat):Nat:=r7 p (s.size -i) s i
theorem MV {p:U8→Bool} {s:B} {i:Nat} (h:s.size≤i):o5 p s i=i:=by
 unfold o5
 rw[show s.size -i=0 by omega,r7]
theorem xm {p:U8→Bool} {s:B} {i:Nat} {c:UInt8} (h:s.data[i]?=some c):o5 p s i=if p ⟨c.toNat⟩ then o5 p s (i+1) else i:=by
 have hi:i < s.size:=(Array.getElem?_eq_some_iff.1 h).1
 unfold o5
 rw[show s.size -i=(s.size - (i+1)) +1 by omega,r7,h]
theorem MW (p:U8→Bool): ∀ (n:Nat) (s:B) (i:Nat),i≤r7 p n s i∧r7 p n s i≤i+n
 | 0,s,i=> by rw[r7];omega
 | n+1,s,i=> by
   rw[r7]
   split
   ·split
    ·have:=MW p n s (i+1);omega
    ·omega
   ·omega
theorem qb (p:U8→Bool) {s:B} {i:Nat} (h:i≤s.size):i≤o5 p s i∧o5 p s i≤s.size:=by
 have:=MW p (s.size -i) s i
 unfold o5
 omega
def Tu (c:U8):Bool:=decide (c.val=32∨c.val=10)
def CQ (c:U8):Bool:=tr c.val
def pP (c:U8):Bool:=decide (48≤c.val∧c.val≤57)
def EA (c:U8):Bool:=CQ c || pP c || decide (c.val=45)
theorem Gf: ∀ (n:Nat) (s:B) (i:Nat),r7 Tu n s i=FN n s i
 | 0,s,i=> by rw[r7,FN]
 | n+1,s,i=> by
   rw[r7,FN,VD]
   cases h:s.data[i]? with
   | none=> rfl
   | some c=>
     simp only
     rw[Gf n s (i+1)]
     have:Tu ⟨c.toNat⟩=decide (c.toNat=32∨c.toNat=10):=by unfold Tu;rw[Bool.eq_iff_iff];simp;omega
     rw[this]
theorem AB: ∀ (n:Nat) (s:B) (i:Nat),r7 pP n s i=P6 n s i
 | 0,s,i=> by rw[r7,P6]
 | n+1,s,i=> by
   rw[r7,P6,PJ]
   cases h:s.data[i]? with
   | none=> rfl
   | some c=>
     simp only
     rw[AB n s (i+1)]
     have:pP ⟨c.toNat⟩=decide (48≤c.toNat∧c.toNat≤57):=by unfold pP;rw[Bool.eq_iff_iff];simp;omega
     rw[this]
theorem EX: ∀ (n:Nat) (s:B) (i:Nat),r7 EA n s i=Py n s i
 | 0,s,i=> by rw[r7,Py]
 | n+1,s,i=> by
   rw[r7,Py,Lt]
   cases h:s.data[i]? with
   | none=> rfl
   | some c=>
     simp only
     rw[EX n s (i+1)]
     have:EA ⟨c.toNat⟩=(A6 c.toNat || decide (48≤c.toNat∧c.toNat≤57∨c.toNat=45)):=by
      unfold EA CQ pP tr A6;rw[Bool.eq_iff_iff];simp;omega
     rw[this]
end Go.Gv

namespace Go.Gv
open Cod (enc dec)
structure Tz where
 kind:Int
 text:B
 pos:Int
instance:Cod Tz where
 wd:=3
 enc t:= .agg [enc t.kind,enc t.text,enc t.pos]
 dec | .agg [x0,x1,x2]=> (dec x0).bind fun a=> (dec x1).bind fun b=> (dec x2).bind fun c=> some ⟨a,b,c⟩ | _=> none
 kn _:=rfl
 wid _:=rfl
 dec_enc f:=by simp only[Cod.dec_enc,Option.bind_some]
 le d x h:=by
  split at h
  ·simp only[Option.bind_eq_some_iff,Option.some.injEq] at h
   obtain⟨a,h0,b,h1,c,h2,rfl⟩:=h
   exact LeL.agg (.cons (Cod.le _ _ h0) (.cons (Cod.le _ _ h1) (.cons (Cod.le _ _ h2) .nil)))
  ·cases h
@[simp] theorem qfi (s:Tz):enc s= .agg [enc s.kind,enc s.text,enc s.pos]:=id rfl
def AI (s:B) (i:Nat):B×Int:=match nA s (i+1) ⟨#[]⟩ with
 | some r=> (r.2,r.1+1)
 | none=> (⟨#[]⟩, -1)
def cT (s:B) (i:Nat):Tz×Int:=
 let j:=bV s i
 match s.data[j]? with
 | none=> (⟨0,E0,j⟩,j)
 | some c=>
   if CQ ⟨c.toNat⟩ then(⟨2,s.extract j (om s j),j⟩,om s j)
   else if pP ⟨c.toNat⟩ then(⟨3,s.extract j (oU s j),j⟩,oU s j)
   else if c.toNat=34 then(if(AI s j).2 < 0 then(⟨1,E0,j⟩,s.size) else(⟨4,(AI s j).1,j⟩,(AI s j).2))
   else match signsL.find? (iH s j) with
    | some x=> (⟨5,x,j⟩,j+x.size)
    | none=> (⟨1,E0,j⟩,j)
end Go.Gv

namespace Go.Gv
open Cod (enc dec)
structure Rdr where
 txt:B
 fin:Int
 kind:Int
 text:B
 pos:Int
@[simp] theorem qfc (s:Rdr):Rdr.mk s.txt s.fin s.kind s.text s.pos=s:=by cases s;rfl
def cW (s:Rdr):List D:= [enc s.txt,enc s.fin,enc s.kind,enc s.text,enc s.pos]
@[simp] theorem qdw (s:Rdr):cW s= [enc s.txt,enc s.fin,enc s.kind,enc s.text,enc s.pos]:=id rfl
section
variable {Y Z:Type}
def Zn:uH Rdr:=yo cW
def qeg (A:ix Z) (er:Y→D) (pre:Rdr→Z→Prop) (post:Rdr→Z→Rdr→Y→Prop):Spc:=qdG Zn A er pre post
def qgg (er:Y→D) (pre:Rdr→Z→Prop) (post:Rdr→Z→Rdr→Y→Prop) (id b:Nat) (r:Option Res) (o:Option Z) (H:ab) (K:D→ab→Prop):Prop:=
 ∃x,r=some (.box b (cW x))∧gE o fun z=> pre x z∧ ∀x' y,post x z x' y→K (er y) (au H id (some (.box b (cW x'))))
theorem Du {x y:Rdr} (h:cW x=cW y):x=y:=by
 obtain⟨l,a,d,e,f⟩:=x
 obtain⟨l',a',d',e',f'⟩:=y
 simp only[cW,List.cons.injEq] at h
 obtain⟨h1,h2,h3,h4,h5,_⟩:=h
 have h1:=jP h1
 have h2:=jP h2
 have h3:=jP h3
 have h4:=jP h4
 have h5:=jP h5
 subst h1;subst h2;subst h3;subst h4;subst h5
 rfl
@[simp] theorem UN (A:ix Z) (er:Y→D) (pre:Rdr→Z→Prop) (post:Rdr→Z→Rdr→Y→Prop) (d i b:Nat) (ds:List D) (H:ab) (K:D→ab→Prop): (qeg A er pre post).pt d (.bptr i b 0::ds) H K=qgg er pre post i b (H i) (A.dec ds) H K:=by
 refine propext ⟨fun h=> ?_,fun h=> ?_⟩
 ·obtain⟨id,b',x,z,ds',h1,h2,h3,h4,h5,h6,h7⟩:=h
  cases h1
  refine⟨x,h3,?_⟩
  rw[h2]
  exact⟨h6,h7⟩
 ·obtain⟨x,h1,h2⟩:=h
  cases hz:A.dec ds with
  | none=> rw[hz] at h2;exact h2.elim
  | some z=> rw[hz] at h2;exact⟨i,b,x,z,ds,rfl,hz,h1,fun p hp=> by simp[Zn,yo] at hp,by simp[Zn,yo],h2.1,h2.2⟩
def BI (er:Y→D) (b:Nat) (post:Rdr→Y→Prop) (r:D) (H:ab):Prop:=Xh Zn er b post r H
theorem gT {er:Y→D} {b:Nat} {post:Rdr→Y→Prop} {r:D} {H:ab} (x:Rdr) (y:Y) (hr:FrzTo (fun i=> if i=0 then none else H i) r (er y)) (h0:H 0=some (.box b (cW x))) (hq:post x y):BI er b post r H:=
 ⟨x,y,by simpa [Zn,yo] using hr,h0,fun p hp=> by simp[Zn,yo] at hp,hq⟩
def sA (cc:CC) (rs:List aI) (S:Nat→Spc) (A:ix Z) (er:Y→D) (pre:Rdr→Z→Prop) (post:Rdr→Z→Rdr→Y→Prop):Prop:=
 ∀b x z,pre x z→vc S cc (uX rs fun r H'=> BI er b (post x z) r H') (d9 (.bptr 0 b 0::A.view z)) (au cF 0 (some (.box b (cW x))))
variable {P:Program} {S:Nat→Spc} {f:Nat} {im:List Nat} {cc:CC} {rs:List aI} {N:Nat}
theorem OT {A:ix Z} {er:Y→D} {pre:Rdr→Z→Prop} {post:Rdr→Z→Rdr→Y→Prop} (hS: ∀f,Tri P f (S f).pt) (h:aR P f im cc rs N) (hN: ∀z,(A.view z).length+1≤N) (hw:sA cc rs S A er pre post):Tri P f (qeg A er pre post).pt:=
 FF (by simp[Zn,yo]) hS h hN fun b x z hp=> hw b x z hp
end
section
variable {Y Z:Type}
def XA (A:ix Z) (er:Y→D) (F:Rdr→Z→Option (Rdr×Y)):Spc:=qeg A er (fun s z=> ∃r,F s z=some r) (fun s z s' y=> F s z=some (s',y))
def UM (er:Y→D) (F:Rdr→Z→Option (Rdr×Y)) (id b:Nat) (r:Option Res) (o:Option Z) (H:ab) (K:D→ab→Prop):Prop:=
 ∃x,r=some (.box b (cW x))∧gE o fun z=> gE (F x z) fun q=> K (er q.2) (au H id (some (.box b (cW q.1))))
@[congr] theorem qef {er:Y→D} {F:Rdr→Z→Option (Rdr×Y)} {id b:Nat} {r r':Option Res} {o o':Option Z} {H:ab} {K:D→ab→Prop} (h1:r=r') (h2:o=o'):UM er F id b r o H K=UM er F id b r' o' H K:=by subst h1;subst h2;rfl
theorem qcI {F:Option (Rdr×Y)} {k:Rdr→Y→Prop} : ((∃r,F=some r)∧ ∀x' y,F=some (x',y)→k x' y)=gE F fun q=> k q.1 q.2:=by
 cases F with
 | none=>
   refine propext (Iff.intro (fun h=> ?_) (fun h=> ?_))
   ·obtain⟨⟨r,h⟩,_⟩:=h
    cases h
   ·exact False.elim h
 | some r=>
   refine propext (Iff.intro (fun h=> h.2 _ _ rfl) (fun h=> ⟨⟨_,rfl⟩,fun x' y e=> ?_⟩))
   cases e
   exact h
@[simp] theorem qgh (A:ix Z) (er:Y→D) (F:Rdr→Z→Option (Rdr×Y)) (d i b:Nat) (ds:List D) (H:ab) (K:D→ab→Prop): (XA A er F).pt d (.bptr i b 0::ds) H K=UM er F i b (H i) (A.dec ds) H K:=by
 unfold XA UM
 rw[UN]
 unfold qgg
 refine propext (exists_congr fun x=> and_congr_right fun _=> ?_)
 cases A.dec ds with
 | none=> exact Iff.rfl
 | some z=> exact iff_of_eq qcI
@[simp] theorem qgi (er:Y→D) (F:Rdr→Z→Option (Rdr×Y)) (id b:Nat) (l:B) (p dp:Int) (e:B) (f:Int) (o:Option Z) (H:ab) (K:D→ab→Prop):
 UM er F id b (some (.box b [.v (.string l), .v (.int .i64 p), .v (.int .i64 dp), .v (.string e), .v (.int .i64 f)])) o H K=gE o fun z=> gE (F ⟨l,p,dp,e,f⟩ z) fun q=> K (er q.2) (au H id (some (.box b (cW q.1)))):=by
 refine propext ⟨fun⟨x,h1,h2⟩=> ?_,fun h=> ⟨⟨l,p,dp,e,f⟩,rfl,h⟩⟩
 have e1:cW ⟨l,p,dp,e,f⟩=cW x:=by
  have:=Option.some.inj h1
  exact(Res.box.inj this).2
 have:=Du e1
 subst this
 exact h2
variable {P:Program} {S:Nat→Spc} {f:Nat} {im:List Nat} {cc:CC} {rs:List aI} {N:Nat}
theorem iR {A:ix Z} {er:Y→D} {F:Rdr→Z→Option (Rdr×Y)} (hS: ∀f,Tri P f (S f).pt) (h:aR P f im cc rs N) (hN: ∀z,(A.view z).length+1≤N)
 (hw:sA cc rs S A er (fun s z=> ∃r,F s z=some r) (fun s z s' y=> F s z=some (s',y))):Tri P f (XA A er F).pt:=OT hS h hN hw
end
end Go.Gv

namespace Go.Gv
def yy (s:Rdr):Option Rdr:=if(0≤s.fin∧s.fin≤s.txt.size)∧s.txt.size≤100000 then some ⟨s.txt,(cT s.txt s.fin.toNat).2,(cT s.txt s.fin.toNat).1.kind,(cT s.txt s.fin.toNat).1.text,(cT s.txt s.fin.toNat).1.pos⟩ else none
def Jw (s:Rdr):Option Tz:=if(0≤s.fin∧s.fin≤s.txt.size)∧s.txt.size≤100000 then some (cT s.txt s.fin.toNat).1 else none
def cO (s:Rdr) (t:B):Bool:=decide (s.kind=5) && decide (s.text=t)
def pF (s:Rdr) (t:B):Option (Rdr×Bool):=if cO s t then(yy s).map fun x=> (x,true) else some (s,false)
def fU (s:Rdr) (l:List B):Bool:=decide (s.kind=2) && l.any (fun z=> decide (s.text=z))
section
variable (N:Rdr→Option (Rdr×Cond)) (O:Rdr→Option (Rdr×Cond))
end
section
variable (A:Rdr→Bool→Option (Rdr×Pat)) (O:Rdr→Option (Rdr×Cond))
def Jk:List B:= [⟨#[119,105,116,104,105,110]⟩,⟨#[99,111,110,116,97,105,110,105,110,103]⟩,⟨#[111,118,101,114,108,97,112,112,105,110,103]⟩,⟨#[115,116,114,97,116,101,103,121]⟩]
def uD (s:Rdr) (inner:Bool):Option Bool:=
 if s.kind=4 then some true else if s.kind=2 then(Jw s).map fun n=> (inner || !fU s Jk) || (decide (n.kind=5) && decide (n.text=⟨#[58]⟩))
 else some (cO s ⟨#[91]⟩ || cO s ⟨#[60]⟩ || cO s ⟨#[60,47]⟩ || cO s ⟨#[40]⟩)
end
def fP:Glob:=⟨0,E0,E0,E0,E0,E0,false,0,0, [], []⟩
end Go.Gv

namespace Go.Gv
def t_word:B:=⟨#[119,111,114,100]⟩
def Ur:B:=⟨#[116,97,103]⟩
def t_feat:B:=⟨#[102,101,97,116]⟩
def ZD:List B:= [⟨#[97]⟩,⟨#[98]⟩,⟨#[97,46,42]⟩,⟨#[91,97,98,93]⟩]
def Oo:List B:= [⟨#[97]⟩,⟨#[98]⟩,⟨#[97,46,42]⟩,⟨#[91,97,98,93]⟩,⟨#[88]⟩,⟨#[]⟩,⟨#[99,63]⟩,⟨#[97,124,98]⟩,⟨#[89]⟩,⟨#[97,124,88]⟩]
def D5:List B:= [t_word,Ur]
def ZK:List B:= [⟨#[112]⟩,⟨#[113]⟩]
def qbr:List B:= [⟨#[49]⟩,⟨#[50]⟩]
def t_n:B:=⟨#[110]⟩
inductive GA (lb:List B):Cond→Prop
 | val (n v:B) (f:Bool) (h1:n∈D5) (h2:v∈Oo):GA lb ⟨2,n,E0,v,E0,f, []⟩
 | feat (v:B) (h:v∈ZK):GA lb ⟨3,t_feat,E0,v,E0,false, []⟩
 | same (n l a:B) (h1:n∈D5) (h2:l∈lb) (h3:a∈D5):GA lb ⟨4,n,a,E0,l,false, []⟩
 | reg (n:B) (h:n∈rS):GA lb ⟨5,n,E0,E0,E0,false, []⟩
 | regk (n v:B) (h1:n∈rS) (h2:v∈qbr):GA lb ⟨5,n,t_n,v,E0,false, []⟩
inductive GI (lb:List B):Nat→Cond→Prop
 | atom (n:Nat) (c:Cond) (h:GA lb c):GI lb n c
 | not (n:Nat) (k:Cond) (h:GI lb n k):GI lb (n+1) ⟨6,E0,E0,E0,E0,false, [k]⟩
 | two (n:Nat) (op:Int) (a b:Cond) (ho:op=7∨op=8) (h1:GI lb n a) (h2:GI lb n b):GI lb (n+1) ⟨op,E0,E0,E0,E0,false, [a,b]⟩
inductive GC (lb:List B) (n:Nat):Cond→Prop
 | any:GC lb n ⟨1,E0,E0,E0,E0,false, []⟩
 | top (v:B) (f:Bool) (h:v∈ZD):GC lb n ⟨2,E0,E0,v,E0,f, []⟩
 | inner (c:Cond) (h:GI lb n c):GC lb n c
theorem LL {lb:List B} {c:Cond} (h:GA lb c):c.kids= []:=by cases h <;> rfl
theorem Q2 {lb:List B} : ∀ {n:Nat} {c:Cond},GI lb n c→CS n c
 | _,_, .atom n c h=> P7 (LL h)
 | _,_, .not n k h=> qbb rfl rfl (Q2 h)
 | _,_, .two n op a b _ h1 h2=> qba rfl rfl (Q2 h1) (Q2 h2)
theorem qc7 {lb:List B} {n:Nat} {c:Cond} (h:GC lb n c):CS n c:=by
 cases h with
 | any=> exact P7 rfl
 | top v f h=> exact P7 rfl
 | inner c h=> exact Q2 h
def qaH (l:List B) (x:B):Bool:=l.any fun z=> decide (z=x)
theorem Nx (l:List B) (x:B):qaH l x=true↔x∈l:=by
 unfold qaH
 rw[List.any_eq_true]
 exact⟨fun⟨z,h1,h2⟩=> by rw[decide_eq_true_eq] at h2;rwa [←h2],fun h=> ⟨x,h,decide_eq_true rfl⟩⟩
instance decMem (l:List B) (x:B):Decidable (x∈l):=if h:qaH l x=true then .isTrue ((Nx l x).1 h) else .isFalse fun hx=> h ((Nx l x).2 hx)
mutual
def sS (lb:List B):Cond→Cond
 | .mk op n a v l f ks=> if op=4 then(if l∈lb then .mk op n a v l f ks else⟨2,n,E0,⟨#[97,124,88]⟩,E0,false, []⟩) else .mk op n a v l f (MY lb ks)
def MY (lb:List B):List Cond→List Cond
 | []=> []
 | k::ks=> sS lb k::MY lb ks
end
theorem Js (lb:List B): ∀l:List Cond,MY lb l=l.map (sS lb)
 | []=> by rw[MY];rfl
 | k::l=> by rw[MY,Js lb l];rfl
theorem jM (lb:List B) (c:Cond):sS lb c=if c.op=4 then(if c.lab∈lb then c else⟨2,c.name,E0,⟨#[97,124,88]⟩,E0,false, []⟩) else⟨c.op,c.name,c.arg,c.val,c.lab,c.fold,c.kids.map (sS lb)⟩:=by
 cases c;rw[sS,Js]
theorem Pn (lb:List B):sS lb Cond0=Cond0:=by
 rw[jM,if_neg (show ¬Cond0.op=4 from by decide)]
 rfl
mutual
def kT (lb:List B):Pat→Pat
 | .mk op c l r mn mx ks=> ⟨op,sS lb c,l,r,mn,mx,H4 lb ks⟩
def H4 (lb:List B):List Pat→List Pat
 | []=> []
 | k::ks=> kT lb k::H4 lb ks
end
theorem HZ (lb:List B): ∀l:List Pat,H4 lb l=l.map (kT lb)
 | []=> by rw[H4];rfl
 | k::l=> by rw[H4,HZ lb l];rfl
theorem oV (lb:List B) (p:Pat):kT lb p=⟨p.op,sS lb p.cond,p.lab,p.reg,p.mn,p.mx,p.kids.map (kT lb)⟩:=by
 cases p;rw[kT,HZ]
def Ol (out:List B) (x:B):List B:=if x∈out then out else out++ [x]
mutual
def jG:Pat→List B→List B
 | .mk op c l r mn mx ks,out=> if op=1∧l≠E0 then Ol out l else Oi ks out
def Oi:List Pat→List B→List B
 | [],out=> out
 | k::ks,out=> Oi ks (jG k out)
end
theorem HY: ∀ (l:List Pat) (out:List B),Oi l out=l.foldl (fun o k=> jG k o) out
 | [],out=> by rw[Oi];rfl
 | k::l,out=> by rw[Oi,HY l];rfl
theorem pQ (p:Pat) (out:List B):jG p out=if p.op=1∧p.lab≠E0 then Ol out p.lab else p.kids.foldl (fun o k=> jG k o) out:=by
 cases p;rw[jG,HY]
theorem LJ {lb lb':List B} : ∀ {n:Nat} {c:Cond},GI lb n c→GI lb' n (sS lb' c)
 | _,_, .atom n c h=> by
   cases h with
   | val nm v f h1 h2=> rw[jM,if_neg (by decide: ¬ (2:Int)=4)];exact .atom _ _ (.val nm v f h1 h2)
   | feat v h=> rw[jM,if_neg (by decide: ¬ (3:Int)=4)];exact .atom _ _ (.feat v h)
   | same nm l a h1 h2 h3=>
     rw[jM,if_pos rfl]
     split
     ·rename_i hl;exact .atom _ _ (.same nm l a h1 hl h3)
     ·exact .atom _ _ (.val nm _ false h1 (by simp[Oo]))
   | reg nm h=> rw[jM,if_neg (by decide: ¬ (5:Int)=4)];exact .atom _ _ (.reg nm h)
   | regk nm v h1 h2=> rw[jM,if_neg (by decide: ¬ (5:Int)=4)];exact .atom _ _ (.regk nm v h1 h2)
 | _,_, .not n k h=> by
   rw[jM,if_neg (by decide: ¬ (6:Int)=4)]
   exact .not n _ (LJ h)
 | _,_, .two n op a b ho h1 h2=> by
   rw[jM,if_neg (show ¬op=4 by omega)]
   exact .two n op _ _ ho (LJ h1) (LJ h2)
theorem qaL {lb lb':List B} {n:Nat} {c:Cond} (h:GC lb n c):GC lb' n (sS lb' c):=by
 cases h with
 | any=> rw[jM,if_neg (by decide: ¬ (1:Int)=4)];exact .any
 | top v f h=> rw[jM,if_neg (by decide: ¬ (2:Int)=4)];exact .top v f h
 | inner c h=> exact .inner _ (LJ h)
theorem TF {lb lb':List B} {p:Pat} (h:qb4 lb p):qb4 lb (kT lb' p):=by
 rw[oV]
 rcases h with⟨h1,h2,h3,h4,h5,h6⟩ | ⟨h1,h2,h3,h4,h5,h6,h7⟩
 ·exact .inl ⟨h1,h2,h3,h4,h5,by show p.kids.map _= [];rw[h6];rfl⟩
 ·exact .inr ⟨h1,by show sS lb' p.cond=_;rw[h2,Pn],h3,h4,h5,h6,by show p.kids.map _= [];rw[h7];rfl⟩
theorem XI {lb lb':List B} : ∀n p,WP lb n p→WP lb n (kT lb' p):=by
 refine Ff fun n p hp ih=> ?_
 rcases vr hp with hp | ⟨m,rfl,(⟨h1,h2,h3,h4,h5,h6,a,b,h7,ha,hb⟩ | ⟨h1,h2,h3,h4,h5,a,h7,ha⟩)⟩
 ·exact qb8 (TF hp)
 ·obtain⟨m1,e1,_,a1⟩:=ih a (by rw[h7];simp)
  obtain⟨m2,e2,_,a2⟩:=ih b (by rw[h7];simp)
  have e1:m1=m:=by omega
  have e2:m2=m:=by omega
  subst e1;subst e2
  rw[oV]
  exact .inr (.inl ⟨h1,by show sS lb' p.cond=_;rw[h2,Pn],h3,h4,h5,h6,_,_,by show p.kids.map _=_;rw[h7];rfl,a1,a2⟩)
 ·obtain⟨m1,e1,_,a1⟩:=ih a (by rw[h7];simp)
  have e1:m1=m:=by omega
  subst e1
  rw[oV]
  exact .inr (.inr ⟨h1,by show sS lb' p.cond=_;rw[h2,Pn],h3,h4,h5,_,by show p.kids.map _=_;rw[h7];rfl,a1⟩)
theorem Np (lb:List B) (p:Pat):aY (kT lb p)=(aY p).map (kT lb):=by
 induction p using xn with | _ p ih=> ?_
 rw[bz,bz p,oV]
 simp only
 split
 ·rw[List.map_singleton,oV]
 ·rw[List.flatMap_map,List.map_flatMap]
  have: ∀ks:List Pat,(∀k∈ks,aY (kT lb k)=(aY k).map (kT lb))→ks.flatMap (fun a=> aY (kT lb a))=ks.flatMap (fun a=> (aY a).map (kT lb)):=by
   intro ks
   induction ks with
   | nil=> intro _;rfl
   | cons k ks ihk=>
     intro h
     rw[List.flatMap_cons,List.flatMap_cons,h k (by simp),ihk fun z hz=> h z (by simp[hz])]
  exact this p.kids ih
theorem WL (lb:List B) (p:Pat): ∀out,jG (kT lb p) out=jG p out:=by
 induction p using xn with | _ p ih=> ?_
 intro out
 rw[pQ,pQ p,oV]
 simp only
 split
 ·rfl
 ·have: ∀ (ks:List Pat) (o:List B),(∀k∈ks,∀out,jG (kT lb k) out=jG k out)→(ks.map (kT lb)).foldl (fun o k=> jG k o) o=ks.foldl (fun o k=> jG k o) o:=by
   intro ks
   induction ks with
   | nil=> intro o _;rfl
   | cons k ks ihk=>
     intro o h
     rw[List.map_cons,List.foldl_cons,List.foldl_cons,h k (by simp),ihk _ fun z hz=> h z (by simp[hz])]
  exact this p.kids out ih
theorem WV {out:List B} {x y:B} (h:y∈Ol out x):y∈out∨y=x:=by
 unfold Ol at h
 split at h
 ·exact .inl h
 ·rcases List.mem_append.1 h with h | h
  ·exact .inl h
  ·exact .inr (by simpa using h)
theorem Zb {lb:List B} : ∀n p,WP lb n p→ ∀out,(∀y∈jG p out,y∈out∨y∈lb):=by
 refine Ff fun n p hp ih=> fun out y hy=> ?_
 rw[pQ] at hy
 split at hy
 ·rename_i h
  rcases WV hy with h1 | rfl
  ·exact .inl h1
  ·rcases vr hp with(⟨h1,h2,_⟩ | ⟨h1,_⟩) | ⟨m,rfl,(⟨h1,_⟩ | ⟨h1,_⟩)⟩
   ·exact .inr (h2.resolve_left h.2)
   ·omega
   ·omega
   ·omega
 ·have: ∀ (ks:List Pat) (o:List B),(∀k∈ks,k∈p.kids)→y∈ks.foldl (fun o k=> jG k o) o→y∈o∨y∈lb:=by
   intro ks
   induction ks with
   | nil=> intro o _ h;exact .inl h
   | cons k ks ihk=>
     intro o hk h
     rw[List.foldl_cons] at h
     rcases ihk _ (fun z hz=> hk z (by simp[hz])) h with h1 | h1
     ·obtain⟨m,_,_,h2⟩:=ih k (hk k (by simp))
      exact h2 o y h1
     ·exact .inr h1
  exact this p.kids out (fun _ h=> h) hy
def ZJ:List B:= [⟨#[97]⟩,⟨#[98,124,99]⟩,⟨#[46]⟩]
def WZ:List B:= [⟨#[111,98,106]⟩,⟨#[100,101,116]⟩,⟨#[]⟩]
def Xg:List B:= [⟨#[83]⟩,⟨#[78,80]⟩,⟨#[86,80]⟩]
inductive GG (lb:List B):Nat→Glob→Prop
 | bound (n:Nat) (a:B) (h:a∈lb):GG lb n ⟨1,a,E0,E0,E0,E0,false,0,0, [], []⟩
 | val (n:Nat) (a v:B) (f:Bool) (h1:a∈lb) (h2:v∈ZJ):GG lb n ⟨2,a,E0,t_word,E0,v,f,0,0, [], []⟩
 | same (n:Nat) (a b g:B) (h1:a∈lb) (h2:b∈lb) (h3:g∈D5):GG lb n ⟨3,a,b,t_word,g,E0,false,0,0, [], []⟩
 | dist (n:Nat) (a b:B) (mn mx:Int) (h1:a∈lb) (h2:b∈lb) (h3: -2≤mn) (h4:mn≤2) (h5:mn≤mx) (h6:mx≤mn+3):GG lb n ⟨4,a,b,E0,E0,E0,false,mn,mx, [], []⟩
 | reg (n:Nat) (a b t:B) (h1:a∈lb) (h2:b∈lb) (h3:t∈rS):GG lb n ⟨5,a,b,t,E0,E0,false,0,0, [], []⟩
 | head (n:Nat) (op:Int) (a b:B) (ho:op=6∨op=7) (h1:a∈lb) (h2:b∈lb):GG lb n ⟨op,a,b,E0,E0,E0,false,0,0, [], []⟩
 | path (n:Nat) (a b:B) (l:List B) (h1:a∈lb) (h2:b∈lb) (h3:l.length≤2) (h4: ∀x∈l,x∈WZ):GG lb n ⟨8,a,b,E0,E0,E0,false,0,0,l, []⟩
 | node (n:Nat) (a b t:B) (h1:a∈lb) (h2:b∈lb) (h3:t∈Xg):GG lb n ⟨9,a,b,t,E0,E0,false,0,0, [], []⟩
 | depth (n:Nat) (a:B) (mn mx:Int) (h1:a∈lb) (h3:0≤mn) (h4:mn≤2) (h5:mn≤mx) (h6:mx≤mn+1):GG lb n ⟨10,a,E0,E0,E0,E0,false,mn,mx, [], []⟩
 | not (n:Nat) (k:Glob) (h:GG lb n k):GG lb (n+1) ⟨11,E0,E0,E0,E0,E0,false,0,0, [], [k]⟩
 | two (n:Nat) (op:Int) (a b:Glob) (ho:op=12∨op=13) (h1:GG lb n a) (h2:GG lb n b):GG lb (n+1) ⟨op,E0,E0,E0,E0,E0,false,0,0, [], [a,b]⟩
def GF (f:jT):Prop:=(f.op=1∨f.op=2∨f.op=3)∧f.reg∈rS
structure GQ (n:Nat) (q:Qry):Prop where
 lab: ∃lb,J3 lb∧WP lb n q.pat
 cond: ∀y∈aY q.pat,GC (jG q.pat []) 1 y.cond
 glob:q.glob=fP∨GG (jG q.pat []) 2 q.glob
 filts:q.filts.length≤1∧ ∀f∈q.filts,GF f
 strat:0≤q.strat∧q.strat < 4
end Go.Gv

namespace Go.Gv
open Cod (enc dec)
variable {S S0:Nat→Spc}
def Qj (x:List Int×Int×List B) (y:Cond):Prop:=GI x.2.2 x.2.1.toNat y
abbrev yU (n:Nat):Spc:=dG (aT (a2 Int (List B))) (J2 n) (enc (X:=Cond)) Qj
theorem qmL {i:Nat} {a:B} (h: [(⟨#[119,111,114,100]⟩:B),⟨#[119,111,114,100]⟩,⟨#[116,97,103]⟩][i]?=some a):a∈D5:=by
 have:=cn h
 simpa [D5,t_word,Ur] using this
theorem qjo {i:Nat} {a:B} (h: [(⟨#[119,111,114,100]⟩:B),⟨#[116,97,103]⟩][i]?=some a):a∈D5:=cn h
theorem qjn {i:Nat} {a:B} (h: [(⟨#[112]⟩:B),⟨#[113]⟩][i]?=some a):a∈ZK:=cn h
theorem qjm {i:Nat} {a:B} (h: [(⟨#[49]⟩:B),⟨#[50]⟩][i]?=some a):a∈qbr:=cn h
theorem ql4 {i:Nat} {a:B} (h: [(⟨#[97]⟩:B),⟨#[98]⟩,⟨#[97,46,42]⟩,⟨#[91,97,98,93]⟩][i]?=some a):a∈ZD:=cn h
theorem qmK {i:Nat} {a:B} (h: [(⟨#[97]⟩:B),⟨#[98]⟩,⟨#[97,46,42]⟩,⟨#[91,97,98,93]⟩,⟨#[88]⟩,⟨#[]⟩,⟨#[99,63]⟩,⟨#[97,124,98]⟩][i]?=some a):a∈Oo:=by
 have:=cn h
 simp only[Oo,List.mem_cons,List.not_mem_nil,or_false] at this ⊢
 rcases this with h | h | h | h | h | h | h | h <;> simp[h]
theorem OG (n:Nat) (h1:S ap=s_m_Next) (h2:S gq=jJ) (h3:S cM=yU n):Walk px pg S (aT (a2 Int (List B))) (J2 (n+1)) (enc (X:=Cond)) Qj:=by
 rintro⟨L,deep,lb⟩ ⟨hn,hd0,hd1,hlb⟩
 simp only at hn hd0 hd1 hlb
 simp[px,pg,h1]
 intro b6 k0 hk0 hk1
 refine fG (X:=Int) [0,1,2,6] [6] (fun k=> 0≤k∧k < 12∧(deep < 1→k < 8)) (fun k=> [(7,enc k)]) (fun _=> []) ?_ ?_
 ·simp
  have:k0.tmod 8=k0 % 8:=Int.tmod_eq_emod_of_nonneg hk0
  rw[this]
  omega
 rintro k ⟨q0,q1,q2⟩
 refine fG (X:=Unit) [0,1,2,6,7] [6] (fun _=> 10≤k) (fun _=> []) (fun _=> []) ?_ ?_
 ·simp
  refine fG (X:=Bool) [0,1,2,6,7,15] [6] (fun b=> b=decide (k < 4)) (fun b=> [(16,enc b)]) (fun _=> []) ?_ ?_
  ·simp
   repeat' first | apply And.intro | intro _
   all_goals first | omega | (rw[Bool.eq_iff_iff];simp;omega)
  rintro b hb
  simp[h1,Uw,Uv,qck,Zm,vF,Ap, -Bool.forall_bool]
  refine⟨fun _ y hy0 hy1=> ⟨hy0,hy1,fun a ha y hy0 hy1=> ⟨hy0,hy1,fun a' ha' y hy0 hy1=> gh [] (.nil _) (.atom _ _ (.val a a' _ (qmL ha) (qmK ha')))⟩⟩,fun hb0=> ?_⟩
  rw[hb0] at hb
  have hb:4≤k:=by simpa using hb.symm
  refine⟨fun _ y hy0 hy1=> ⟨hy0,hy1,fun a ha=> gh [] (.nil _) (.atom _ _ (.feat a (qjn ha)))⟩,fun k4=> ⟨fun _ _=> ⟨fun hl y hy0 hy1=> ⟨hy0,hy1,fun a ha _=> ⟨by omega,fun y hy=> ⟨by omega,by omega,fun a' ha' y hy0 hy1=> ⟨hy0,hy1,fun a'' ha''=> gh [] (.nil _) (.atom _ _ (.same a a' a'' (qjo ha) (cn ha') (qjo ha'')))⟩⟩⟩⟩,fun _=> gh [] (.nil _) (.atom _ _ (.val Ur _ false (by simp[D5]) (by simp[Oo])))⟩,fun k5=> ?_⟩⟩
  refine fG (X:=Bool) [0,1,2,6,7,15] [6] (fun b=> b=decide (k=6∨k=7)) (fun b=> [(67,enc b)]) (fun _=> []) ?_ ?_
  ·simp
   repeat' first | apply And.intro | intro _
   all_goals first | omega | (rw[Bool.eq_iff_iff];simp;omega)
  rintro b hb2
  simp[h1,h2, -Bool.forall_bool]
  refine⟨fun _ y hy0 hy1=> ⟨trivial,fun t ht b8=> ?_⟩,fun hb0=> ?_⟩
  ·refine fG (X:=B×B) [6,8] [6] (fun x=> (x.1=E0∧x.2=E0)∨(x.1=t_n∧x.2∈qbr)) (fun _=> []) (fun x=> [(8, .box b8 [.v (.int .i64 5), .v (.string t), .v (.string x.1), .v (.string x.2), .v (.string ⟨#[]⟩), .v (.bool false), .v (.slice none 0 0)])]) ?_ ?_
   ·simp[h1,Uw,vF,Ap]
    refine fun y hy0 hy1=> ⟨fun _ z hz0 hz1=> ⟨hz0,hz1,fun a ha=> ⟨t_n,a, .inr ⟨rfl,qjm ha⟩, .inl ⟨rfl,rfl⟩⟩⟩,fun _=> ⟨E0,E0, .inl ⟨rfl,rfl⟩, .inl ⟨rfl,rfl⟩⟩⟩
   ·rintro⟨a,v⟩ hav
    simp
    refine gh [] (.nil _) (.atom _ _ ?_)
    rcases hav with⟨rfl,rfl⟩ | ⟨rfl,hv⟩
    ·exact .reg t ht
    ·exact .regk t v ht hv
  rw[hb0] at hb2
  have hb2: ¬ (k=6∨k=7):=by simpa using hb2.symm
  refine fG (X:=Bool) [0,1,2,6,7,15] [6] (fun b=> b=decide (k=8∨k=9)) (fun b=> [(85,enc b)]) (fun _=> []) ?_ ?_
  ·simp
   repeat' first | apply And.intro | intro _
   all_goals first | omega | (rw[Bool.eq_iff_iff];simp;omega)
  rintro b hb3
  simp[h3, -Bool.forall_bool]
  have hrec:1≤deep→J2 n (L,deep -1,lb):=fun h=> ⟨by show(deep -1).toNat < n;omega,by show -10≤deep -1;omega,by show deep -1≤100;omega,hlb⟩
  refine⟨fun hb1=> ?_,fun hb0=> ?_⟩
  ·rw[hb1] at hb3
   have hb3:k=8∨k=9:=by simpa using hb3.symm
   have hdn:deep.toNat=(deep -1).toNat+1:=by omega
   refine⟨by simp only[InR];omega,hrec (by omega),fun y hy=> gh [y] (by simp) (by show GI lb deep.toNat _;rw[hdn];exact .not _ _ hy)⟩
  rw[hb0] at hb3
  have hb3: ¬ (k=8∨k=9):=by simpa using hb3.symm
  omega
 ·rintro -hk
  have hrec:J2 n (L,deep -1,lb):=⟨by show(deep -1).toNat < n;omega,by show -10≤deep -1;omega,by show deep -1≤100;omega,hlb⟩
  have hdn:deep.toNat=(deep -1).toNat+1:=by omega
  simp[h3]
  refine⟨by simp only[InR];omega,by simp only[InR];omega,by simp only[InR];omega,hrec,fun y hy=> ⟨by simp only[InR];omega,hrec,fun y' hy'=> gh [y,y'] (by simp) (by show GI lb deep.toNat _;rw[hdn];exact .two _ _ _ _ (by omega) hy hy')⟩⟩
def ZF (x:List Int×Int×List B) (y:Cond):Prop:=GC x.2.2 x.2.1.toNat y
abbrev B8:Spc:=dG (aT (a2 Int (List B))) (fun x=> -10≤x.2.1∧x.2.1≤100∧x.2.2.length≤1000) (enc (X:=Cond)) ZF
abbrev vK:Spc:=dG (aT (a2 Int (List B))) (fun x=> ∃n,J2 n x) (enc (X:=Cond)) Qj
theorem RH (h1:S ap=s_m_Next) (h3:S cM=vK):Walk ra qt S (aT (a2 Int (List B))) (fun x=> -10≤x.2.1∧x.2.1≤100∧x.2.2.length≤1000) (enc (X:=Cond)) ZF:=by
 rintro⟨L,deep,lb⟩ ⟨hd0,hd1,hlb⟩
 simp only at hd0 hd1 hlb
 simp[ra,qt,h1]
 intro b6
 refine fG (X:=Unit) [0,1,2,6] [6] (fun _=> True) (fun _=> []) (fun _=> []) ?_ ?_
 ·simp[h1,Zm,vF,Ap, -Bool.forall_bool]
  exact fun y _ _=> ⟨fun _=> gh [] (.nil _) .any,fun _=> ⟨fun _ z z0 z1=> ⟨z0,z1,fun a ha u _ _=> gh [] (.nil _) (.top a _ (ql4 ha))⟩,fun _ _ z z0 z1=> ⟨z0,z1,fun a ha u _ _=> gh [] (.nil _) (.top a _ (ql4 ha))⟩⟩⟩
 ·rintro - -
  have hrec: ∃n,J2 n (L,deep,lb):=⟨deep.toNat+1,Nat.lt_succ_self _,hd0,hd1,hlb⟩
  simp[h3,hrec]
  exact fun y hy=> gh y.kids (.same _) (by show GC lb deep.toNat _;rw[Bs y];exact .inner _ hy)
theorem qaC {p:Pat} {C:Pat→Prop} (h1: ¬p.op=1) (h2:p.kids= []): ∀y∈aY p,C y:=by
 rw[bz,if_neg h1,h2]
 simp
theorem qaA {p:Pat} {C:Pat→Prop} (h1:p.op=1) (h:C p): ∀y∈aY p,C y:=by
 rw[bz,if_pos h1]
 simpa using h
theorem qaB {p a:Pat} {C:Pat→Prop} (h1: ¬p.op=1) (h2:p.kids= [a]) (ha: ∀y∈aY a,C y): ∀y∈aY p,C y:=by
 rw[bz,if_neg h1,h2]
 simpa using ha
theorem Vn {p a b:Pat} {C:Pat→Prop} (h1: ¬p.op=1) (h2:p.kids= [a,b]) (ha: ∀y∈aY a,C y) (hb: ∀y∈aY b,C y): ∀y∈aY p,C y:=by
 rw[bz,if_neg h1,h2]
 simp only[List.flatMap_cons,List.flatMap_nil,List.append_nil]
 intro y hy
 rcases List.mem_append.1 hy with hy | hy
 ·exact ha y hy
 ·exact hb y hy
def H9 (x:List Int×Int×List B) (p:Pat):Prop:=qdM x p∧ ∀y∈aY p,GC x.2.2 1 y.cond
abbrev tK (n:Nat):Spc:=dG (aT (a2 Int (List B))) (Rm n) (enc (X:=Pat)) H9
theorem Kq (n:Nat) (h1:S ap=s_m_Next) (h2:S gq=jJ) (h3:S kP=B8) (h4:S bC=tK n):Walk m5 mz S (aT (a2 Int (List B))) (Rm (n+1)) (enc (X:=Pat)) H9:=by
 rintro⟨L,deep,lb⟩ ⟨hn,hd0,hd1,hlb⟩
 simp only at hn hd0 hd1 hlb
 simp[m5,mz,h1]
 intro b6 k0 hk0 hk1
 refine fG (X:=Int) [0,1,2,6] [6] (fun k=> 0≤k∧k < 14∧(deep < 1→k < 7)) (fun k=> [(7,enc k)]) (fun _=> []) ?_ ?_
 ·simp
  have:k0.tmod 7=k0 % 7:=Int.tmod_eq_emod_of_nonneg hk0
  rw[this]
  omega
 rintro k ⟨q0,q1,q2⟩
 refine fG (X:=Unit) [0,1,2,6] [6] (fun _=> 12≤k) (fun _=> []) (fun _=> []) ?_ ?_
 ·have hrec:1≤deep→Rm n (L,deep -1,lb):=fun h=> ⟨by show(deep -1).toNat < n;omega,by show -10≤deep -1;omega,by show deep -1≤100;omega,hlb⟩
  have hdn:1≤deep→deep.toNat=(deep -1).toNat+1:=fun h=> by omega
  simp[h1,h2,h3,h4, -Bool.forall_bool]
  refine⟨fun hk=> ⟨hlb,fun c hc b8=> ?_⟩,fun hk=> ⟨fun hk7=> ⟨by simp only[InR];omega,by simp only[InR];omega,fun y _ _=> ⟨trivial,fun t ht=> xq [] [] (.nil _) (.nil _) ⟨⟨qb8 (.inr ⟨by show(2+k -5=2∨2+k -5=3);omega,rfl,rfl,ht,rfl,rfl,rfl⟩),UW Rf rfl⟩,qaC (by show ¬2+k -5=1;omega) rfl⟩⟩⟩,fun hk7=> ⟨fun hk10=> ⟨by simp only[InR];omega,hrec (by omega),fun y hy=> ⟨by simp only[InR];omega,hrec (by omega),fun y' hy'=> ?_⟩⟩,fun hk10 hk12=> ⟨by simp only[InR];omega,hrec (by omega),fun y hy=> ⟨by simp only[InR];omega,hrec (by omega),fun y' hy'=> ?_⟩⟩⟩⟩⟩
  ·refine fG (X:=B) [6,8] [6] (fun x=> x=⟨#[]⟩∨x∈lb) (fun _=> []) (fun x=> [(8, .box b8 [.v (.int .i64 1), .v (.int .i64 c.op), .v (.string c.name), .v (.string c.arg), .v (.string c.val), .v (.string c.lab), .v (.bool c.fold),enc c.kids, .v (.string x), .v (.string ⟨#[]⟩), .v (.int .i64 0), .v (.int .i64 0), .v (.slice none 0 0)])]) ?_ ?_
   ·simp[h1]
    exact fun _ h0 y _ _ _ _=> ⟨by omega,fun z hz=> ⟨by omega,by omega,fun a ha=> .inr ⟨a,cn ha, .inl rfl⟩⟩⟩
   ·rintro x hx
    simp
    exact xq c.kids [] (.same _) (.nil _) ⟨⟨qb8 (.inl ⟨rfl,hx,rfl,rfl,rfl,rfl⟩),UW ⟨_,YZ (d:=c) rfl (qc7 hc)⟩ rfl⟩,qaA rfl (by show GC lb 1 _;rw[Bs c];exact hc)⟩
  ·refine xq [] [y,y'] (.nil _) (by simp) ?_
   refine⟨⟨?_,UV (hdn (by omega)) Rf rfl hy.1.2 hy'.1.2⟩,Vn (by show ¬ (4:Int)=1;decide) rfl hy.2 hy'.2⟩
   show WP lb deep.toNat _
   rw[hdn (by omega)]
   exact .inr (.inl ⟨.inl rfl,rfl,rfl,rfl,rfl,rfl,y,y',rfl,hy.1.1,hy'.1.1⟩)
  ·refine xq [] [y,y'] (.nil _) (by simp) ?_
   refine⟨⟨?_,UV (hdn (by omega)) Rf rfl hy.1.2 hy'.1.2⟩,Vn (by show ¬ (5:Int)=1;decide) rfl hy.2 hy'.2⟩
   show WP lb deep.toNat _
   rw[hdn (by omega)]
   exact .inr (.inl ⟨.inr rfl,rfl,rfl,rfl,rfl,rfl,y,y',rfl,hy.1.1,hy'.1.1⟩)
 ·rintro -hk
  have hrec:Rm n (L,deep -1,lb):=⟨by show(deep -1).toNat < n;omega,by show -10≤deep -1;omega,by show deep -1≤100;omega,hlb⟩
  have hdn:deep.toNat=(deep -1).toNat+1:=by omega
  have fin: ∀ (mn mx:Int) (y:Pat) (H:ab),(mn,mx) ∈Reps→H9 (L,deep -1,lb) y→Fin enc (H9 (L,deep,lb)) (.agg [.v (.int .i64 6), .v (.int .i64 0), .v (.string ⟨#[]⟩), .v (.string ⟨#[]⟩), .v (.string ⟨#[]⟩), .v (.string ⟨#[]⟩), .v (.bool false), .v (.slice none 0 0), .v (.string ⟨#[]⟩), .v (.string ⟨#[]⟩), .v (.int .i64 mn), .v (.int .i64 mx), .list 13 [enc y]]) H:=by
   intro mn mx y H hm hy
   refine xq [] [y] (.nil _) (by simp) ?_
   refine⟨⟨?_,qad hdn Rf rfl hy.1.2⟩,qaB (by show ¬ (6:Int)=1;decide) rfl hy.2⟩
   show WP lb deep.toNat _
   rw[hdn]
   exact .inr (.inr ⟨rfl,rfl,rfl,rfl,hm,y,rfl,hy.1.1⟩)
  simp only[LU] at fin
  simp[h1,h4]
  intro y hy0 hy1
  refine⟨hy0,hy1,fun d hd=> ?_⟩
  have:y=0∨y=1∨y=2∨y=3∨y=4∨y=5∨y=6:=by omega
  rcases this with rfl | rfl | rfl | rfl | rfl | rfl | rfl
  all_goals (simp at hd;subst hd;simp[h4])
  all_goals exact⟨by simp only[InR];omega,hrec,fun y hy=> fin _ _ y _ (by simp[Reps]) hy⟩
end Go.Gv

namespace Go.Gv
open Cod (enc dec)
variable {S S0:Nat→Spc}
theorem Oh (p:Pat): ∀out,(jG p out).length≤out.length+xM p:=by
 induction p using xn with | _ p ih=> ?_
 intro out
 rw[pQ,rL]
 split
 ·unfold Ol
  split
  ·omega
  ·simp
 ·have: ∀ (ks:List Pat) (o:List B),(∀k∈ks,k∈p.kids)→(ks.foldl (fun o k=> jG k o) o).length≤o.length+gf ks:=by
   intro ks
   induction ks with
   | nil=> intro o _;simp[gf]
   | cons k ks ihk=>
     intro o hk
     rw[List.foldl_cons,gf]
     have h1:=ihk (jG k o) fun z hz=> hk z (by simp[hz])
     have:=ih k (hk k (by simp)) o
     omega
  have:=this p.kids out fun _ h=> h
  omega
theorem Bz (ks:List Pat) (k:Nat) (lb:List B): ((ks.take k).foldl (fun o k=> jG k o) lb).length≤lb.length+gf (ks.take k):=by
 generalize ks.take k=l
 induction l generalizing lb with
 | nil=> simp[gf]
 | cons a l ih=>
   rw[List.foldl_cons,gf]
   have h1:=ih (jG a lb)
   have h2:=Oh a lb
   omega
def Qi (x:Cond×List B) (y:Cond):Prop:=y=sS x.2 x.1
abbrev tJ (n:Nat):Spc:=dG (a2 Cond (List B)) (Xe n) (enc (X:=Cond)) Qi
theorem Kp (n:Nat) (h1:S gp=tJ n):Walk uC tW S (a2 Cond (List B)) (Xe (n+1)) (enc (X:=Cond)) Qi:=by
 rintro⟨c,lb⟩ ⟨_,hc⟩
 simp only at hc
 have hc:CS n c:=hc
 simp[uC,tW]
 intro b2 b4
 refine⟨fun ho _=> ?_,fun ho hl=> ?_⟩
 ·refine aO (X:=Unit) [2,4,13] [2,4] lb.length (fun k _=> ∀z∈lb.take k,z≠c.lab) (fun _=> []) (fun _=> []) () (by simp) (by simp) (by omega) (by simp) (by simp) (by simp) (by simp) (by simp) ?_ ?_
  ·rintro k -hk hz
   obtain⟨x,hx⟩:=cP hk
   obtain⟨_,hgx⟩:=List.getElem?_eq_some_iff.1 hx
   simp[hk,hx,hgx]
   refine⟨fun hxl=> gh c.kids (.same _) ?_,fun hxl z hz'=> ?_⟩
   ·show Cond.mk _ _ _ _ _ _ _=sS lb c
    rw[Bs,jM,if_pos ho,if_pos (hxl ▸cn hx)]
   ·rw[cC hx] at hz'
    rcases List.mem_append.1 hz' with h | h
    ·exact hz z h
    ·simp at h;subst h;exact hxl
  ·rintro -hz
   rw[List.take_length] at hz
   simp
   refine gh [] (.nil _) ?_
   show _=sS lb c
   rw[jM,if_pos ho,if_neg (fun h=> hz _ h rfl)]
   rfl
 ·refine aO (X:=Value×List Cond) [1,2,4,29] [2,4] c.kids.length (fun k x=> x.2=(c.kids.take k).map (sS lb)) (fun x=> [(7, .own 40 x.1)]) (fun x=> [(40, .row x.1 aH 7 (x.2.map enc))]) (.slice none 0 0, []) (by simp) (by simp) (by omega) (by simp) (by simp) (by simp) (by simp) (by simp[isNilRow]) ?_ ?_
  ·rintro k ⟨v,ks⟩ hk hkl
   simp only at hkl
   obtain⟨x,hx⟩:=cP hk
   obtain⟨_,hgx⟩:=List.getElem?_eq_some_iff.1 hx
   obtain⟨m,hm,hx1⟩:=qbd hc (cn hx)
   have hp:Xe n (x,lb):=⟨by omega,by rw[hm];exact hx1⟩
   simp[hk,hx,hgx,h1,hp]
   have:=qbc hc
   have hkl2:ks.length=k:=by rw[hkl,List.length_map,List.length_take];omega
   refine fun y hy=> ⟨by omega,by omega,fun v=> .inl ?_⟩
   obtain rfl:y=sS lb x:=hy
   rw[hkl,List.map_map,List.map_take,List.take_add_one]
   simp[hx]
  ·rintro⟨v,ks⟩ hkl
   simp only at hkl
   simp
   rw[List.take_length] at hkl
   refine gh ks (th aH (by simp)) ?_
   show _=sS lb c
   rw[jM,if_neg ho,hkl]
abbrev rZ:Spc:=dG (a2 Cond (List B)) (fun x=> ∃n,CS n x.1) (enc (X:=Cond)) Qi
def L9 (x:Pat×List B) (y:Pat):Prop:=y=kT x.2 x.1
abbrev B7 (n:Nat):Spc:=dG (a2 Pat (List B)) (Ql n) (enc (X:=Pat)) L9
theorem RF (n:Nat) (h1:S gp=rZ) (h2:S mM=B7 n):Walk Dv Ck S (a2 Pat (List B)) (Ql (n+1)) (enc (X:=Pat)) L9:=by
 rintro⟨p,lb⟩ ⟨_,hp⟩
 simp only at hp
 have hp:PD n p:=hp
 have hcd:=Ym hp
 have hpl:=qae hp
 simp[Dv,Ck,h1]
 intro b2 b4
 refine⟨hcd,fun c hc _=> ?_⟩
 refine aO (X:=Value×List Pat) [1,2,4,14] [2,4] p.kids.length (fun k x=> x.2=(p.kids.take k).map (kT lb)) (fun x=> [(5, .own 25 x.1)]) (fun x=> [(25, .row x.1 ag 13 (x.2.map enc))]) (.slice none 0 0, []) (by simp) (by simp) (by omega) (by simp) (by simp) (by simp) (by simp) (by simp[isNilRow]) ?_ ?_
 ·rintro k ⟨v,ks⟩ hk hkl
  simp only at hkl
  obtain⟨x,hx⟩:=cP hk
  obtain⟨_,hgx⟩:=List.getElem?_eq_some_iff.1 hx
  obtain⟨m,hm,hx1⟩:=qaf hp (cn hx)
  have hq:Ql n (x,lb):=⟨by omega,by rw[hm];exact hx1⟩
  have hkl2:ks.length=k:=by rw[hkl,List.length_map,List.length_take];omega
  simp[hk,hx,hgx,h2,hq]
  refine fun y hy=> ⟨by omega,by omega,fun v=> .inl ?_⟩
  obtain rfl:y=kT lb x:=hy
  rw[hkl,List.map_map,List.map_take,List.take_add_one]
  simp[hx]
 ·rintro⟨v,ks⟩ hkl
  simp only at hkl
  rw[List.take_length] at hkl
  simp
  refine xq c.kids ks (.same _) (th ag (by simp)) ?_
  show _=kT lb p
  rw[oV,←show c=sS lb p.cond from hc,hkl,Bs]
abbrev yV:Spc:=dG (a2 Pat (List B)) (fun x=> ∃n,PD n x.1) (enc (X:=Pat)) L9
abbrev r6:Spc:=dG (aT (a2 Int (List B))) (fun x=> -10≤x.2.1∧x.2.1≤100∧x.2.2.length≤1000) (enc (X:=Pat)) H9
def Xd (x:Pat) (l r:List B):Prop:=r=jG x l
abbrev Hv (n:Nat):Spc:=Zx (X:=Pat) (Y:=B) (fun x l=> fb x≤n∧ZI x l) Xd aF 1
abbrev i_BoundA2:Spc:=Zx (X:=Pat) (Y:=B) ZI Xd aF 1
theorem Mx (n:Nat) (h1:S f7=Hv n):L7 (X:=Pat) (Y:=B) rb qu S (fun x l=> fb x≤n+1∧ZI x l) Xd aF 1:=by
 rintro v lb p ⟨hd,hl⟩
 have hk: ∀k∈p.kids,fb k≤n:=fun k h=> by have:=mD h;have:fb p≤n+1:=hd;omega
 have hl:lb.length+xM p≤1000000:=hl
 have hpn:=rL p
 simp[rb,qu]
 refine fG (X:=Unit) [1,2] [1] (fun _=> p.op=1→p.lab=E0) (fun _=> []) (fun _=> []) ?_ ?_
 ·simp
  refine⟨fun ho=> ⟨fun hn _=> ?_,fun h _=> h⟩,fun ho h=> absurd h ho⟩
  refine aO (X:=Unit) [1,2,17] [1] lb.length (fun k _=> ∀z∈lb.take k,z≠p.lab) (fun _=> []) (fun _=> []) () (by simp) (by simp) (by omega) (by simp) (by simp) (by simp) (by simp) (by simp) ?_ ?_
  ·rintro k -hkk hz
   obtain⟨x,hx⟩:=cP hkk
   obtain⟨_,hgx⟩:=List.getElem?_eq_some_iff.1 hx
   simp[hkk,hx,hgx]
   refine⟨fun hxl=> jO lb (by simp) ?_,fun hxl z hz'=> ?_⟩
   ·show lb=jG p lb
    rw[pQ,if_pos ⟨ho,hn⟩,Ol,if_pos (hxl ▸cn hx)]
   ·rw[cC hx] at hz'
    rcases List.mem_append.1 hz' with h | h
    ·exact hz z h
    ·simp at h;subst h;exact hxl
  ·rintro -hz
   rw[List.take_length] at hz
   simp
   refine⟨by omega,by omega,fun v=> jO (lb++ [p.lab]) (by simp) ?_⟩
   show _=jG p lb
   rw[pQ,if_pos ⟨ho,hn⟩,Ol,if_neg fun h=> hz _ h rfl]
 ·rintro -hno
  simp
  intro hkl
  refine aO (X:=Value×List B) [35] [] p.kids.length (fun k x=> x.2=(p.kids.take k).foldl (fun o k=> jG k o) lb) (fun x=> [(1, .own 1 x.1)]) (fun x=> [(1, .row x.1 aF 1 (x.2.map enc))]) (v,lb) (by simp) (by simp) (by omega) (by simp) (by simp) (by simp) (by simp) (by simp) ?_ ?_
  ·rintro k ⟨v,ls⟩ hkk hls
   simp only at hls
   obtain⟨x,hx⟩:=cP hkk
   obtain⟨_,hgx⟩:=List.getElem?_eq_some_iff.1 hx
   have hq:ZI x ls:=by
    have h2:=Bz p.kids k lb
    have h3:=Bz (p.kids.drop k) 1 ls
    rw[←hls] at h2
    have h4:gf (p.kids.take k) +gf (p.kids.drop k)=gf p.kids:=by rw[←JA,List.take_append_drop]
    rw[dv hx,gf] at h4
    show ls.length+xM x≤_
    omega
   have hq2:=hk x (cn hx)
   simp[hkk,hx,hgx,h1,hq,hq2]
   intro v' l' hy
   obtain rfl:l'=jG x ls:=hy
   refine .inl ?_
   rw[cC hx,List.foldl_append,←hls]
   rfl
  ·rintro⟨v,ls⟩ hls
   simp only at hls
   rw[List.take_length] at hls
   simp
   refine jO ls (by simp) ?_
   show ls=jG p lb
   rw[pQ,if_neg fun h=> h.2 (hno h.1),hls]
abbrev Wh:Spc:=qda (Y:=B) (aE Pat (aD a0)) (fun x=> x.2.1= .v (.slice none 0 0)∧ZI x.1 []) (fun x r=> Xd x.1 [] r) aF 1
theorem My (h1:S f7=i_BoundA2):Rk (Y:=B) rb qu S (aE Pat (aD a0)) (fun x=> x.2.1= .v (.slice none 0 0)∧ZI x.1 []) (fun x r=> Xd x.1 [] r) aF 1:=by
 rintro⟨p,d,⟨⟩⟩ ⟨hd,hl⟩
 have hd:d= .v (.slice none 0 0):=hd
 subst hd
 have hl:0+xM p≤1000000:=hl
 have hpn:=rL p
 simp[rb,qu]
 refine fG (X:=Unit) [1,2] [] (fun _=> p.op=1→p.lab=E0) (fun _=> []) (fun _=> []) ?_ ?_
 ·simp
  refine⟨fun ho=> ⟨fun hn=> ?_,fun h _=> h⟩,fun ho h=> absurd h ho⟩
  refine aO (X:=Unit) [1,2] [] 0 (fun _ _=> True) (fun _=> []) (fun _=> []) () (by simp) (by simp) (by omega) (by simp) (by simp) trivial (by simp) (by simp) ?_ ?_
  ·rintro k -hkk -
   exact absurd hkk (Nat.not_lt_zero _)
  ·rintro - -
   simp
   refine fun v=> jO [p.lab] (by simp) ?_
   show _=jG p []
   rw[pQ,if_pos ⟨ho,hn⟩,Ol,if_neg (by simp)]
   rfl
 ·rintro -hno
  simp
  intro hkl
  refine aO (X:=Value×List B) [35] [] p.kids.length (fun k x=> x.2=(p.kids.take k).foldl (fun o k=> jG k o) []) (fun x=> [(1, .own 1 x.1)]) (fun x=> [(1, .row x.1 aF 1 (x.2.map enc))]) (.slice none 0 0, []) (by simp) (by simp) (by omega) (by simp) (by simp) (by simp) (by simp) (by simp[isNilRow]) ?_ ?_
  ·rintro k ⟨v,ls⟩ hkk hls
   simp only at hls
   obtain⟨x,hx⟩:=cP hkk
   obtain⟨_,hgx⟩:=List.getElem?_eq_some_iff.1 hx
   have hq:ZI x ls:=by
    have h2:=Bz p.kids k []
    have h3:=Bz (p.kids.drop k) 1 ls
    rw[←hls,List.length_nil] at h2
    have h4:gf (p.kids.take k) +gf (p.kids.drop k)=gf p.kids:=by rw[←JA,List.take_append_drop]
    rw[dv hx,gf] at h4
    show ls.length+xM x≤_
    omega
   simp[hkk,hx,hgx,h1,hq]
   intro v' l' hy
   obtain rfl:l'=jG x ls:=hy
   refine .inl ?_
   rw[cC hx,List.foldl_append,←hls]
   rfl
  ·rintro⟨v,ls⟩ hls
   simp only at hls
   rw[List.take_length] at hls
   simp
   refine jO ls (by simp) ?_
   show ls=jG p []
   rw[pQ,if_neg fun h=> h.2 (hno h.1),hls]
abbrev s_Bound2:Spc:=qcG Wh i_BoundA2
end Go.Gv

namespace Go.Gv
open Cod (enc dec)
variable {S S0:Nat→Spc}
def Qk (x:List Int×Int×List B) (y:Glob):Prop:=GG x.2.2 x.2.1.toNat y
def qmM (l:List B) (g:Glob):Prop:=g=fP∨GG l 2 g
theorem qjl {i:Nat} {a:B} (h: [(⟨#[97]⟩:B),⟨#[98,124,99]⟩,⟨#[46]⟩][i]?=some a):a∈ZJ:=cn h
theorem qjk {i:Nat} {a:B} (h: [(⟨#[83]⟩:B),⟨#[78,80]⟩,⟨#[86,80]⟩][i]?=some a):a∈Xg:=cn h
theorem qjj {i:Nat} {a:B} (h: [(⟨#[111,98,106]⟩:B),⟨#[100,101,116]⟩,⟨#[]⟩][i]?=some a):a∈WZ:=cn h
abbrev o4 (n:Nat):Spc:=dG (aT (a2 Int (List B))) (Ia n) (enc (X:=Glob)) Qk
theorem Eg (n:Nat) (h1:S ap=s_m_Next) (h2:S gq=jJ) (h3:S bx=o4 n):Walk jD jc S (aT (a2 Int (List B))) (Ia (n+1)) (enc (X:=Glob)) Qk:=by
 rintro⟨L,deep,lb⟩ ⟨hn,hd0,hd1,hlb0,hlb⟩
 simp only at hn hd0 hd1 hlb0 hlb
 simp[jD,jc,h1]
 intro b6 k0 hk0 hk1
 refine fG (X:=Int) [0,1,2,6] [6] (fun k=> 0≤k∧k < 13∧(deep < 1→k < 10)) (fun k=> [(7,enc k)]) (fun _=> []) ?_ ?_
 ·simp
  have:k0.tmod 10=k0 % 10:=Int.tmod_eq_emod_of_nonneg hk0
  rw[this]
  omega
 rintro k ⟨q0,q1,q2⟩
 simp[h1]
 refine fun _=> ⟨by omega,fun i hi=> ⟨by omega,by omega,fun a ha _=> ⟨by omega,fun j hj=> ⟨by omega,by omega,fun c hc=> ?_⟩⟩⟩⟩
 refine fG (X:=Unit) [0,1,2,6,7] [6] (fun _=> 11≤k) (fun _=> []) (fun _=> []) ?_ ?_
 ·have hrec:1≤deep→Ia n (L,deep -1,lb):=fun h=> ⟨by show(deep -1).toNat < n;omega,by show -10≤deep -1;omega,by show deep -1≤100;omega,hlb0,hlb⟩
  have ma:a∈lb:=cn ha
  have mc:c∈lb:=cn hc
  have hdn:1≤deep→deep.toNat=(deep -1).toNat+1:=fun h=> by omega
  simp[h1,h2,h3,Uw,Uv,vF,Ap, -Bool.forall_bool]
  refine⟨fun _=> ip [] [] (.nil _) (.nil _) (.bound _ a ma),fun _=> ⟨fun _ y y0 y1=> ⟨y0,y1,fun v hv z _ _=> ip [] [] (.nil _) (.nil _) (.val _ a v _ ma (qjl hv))⟩,fun _=> ⟨fun _ y y0 y1=> ⟨y0,y1,fun g hg=> ip [] [] (.nil _) (.nil _) (.same _ a c g ma mc (qjo hg))⟩,fun _=> ⟨fun _ y y0 y1=> ⟨by simp only[InR];omega,fun z z0 z1=> ⟨by simp only[InR];omega,ip [] [] (.nil _) (.nil _) (.dist _ a c _ _ ma mc (by omega) (by omega) (by omega) (by omega))⟩⟩,fun _=> ⟨fun _ y y0 y1=> ⟨trivial,fun t ht=> ip [] [] (.nil _) (.nil _) (.reg _ a c t ma mc ht)⟩,fun _=> ⟨fun _=> ip [] [] (.nil _) (.nil _) (.head _ 6 a c (.inl rfl) ma mc),fun _=> ⟨fun _=> ip [] [] (.nil _) (.nil _) (.head _ 7 a c (.inr rfl) ma mc),fun _=> ⟨fun _ b11 y y0 y1=> ?_,fun _=> ⟨fun _ y y0 y1=> ⟨y0,y1,fun t ht=> ip [] [] (.nil _) (.nil _) (.node _ a c t ma mc (qjk ht))⟩,fun _=> ⟨fun _ y y0 y1 z z0 z1=> ⟨by simp only[InR];omega,ip [] [] (.nil _) (.nil _) (.depth _ a _ _ ma (by omega) (by omega) (by omega) (by omega))⟩,fun _=> ⟨fun hk10=> ⟨by simp only[InR];omega,hrec (by omega),fun g=> ?_⟩,fun _=> by omega⟩⟩⟩⟩⟩⟩⟩⟩⟩⟩⟩
  ·refine lL (X:=Int×Value×List B) [0,6,11] [6] [] [] [] [] (fun x=> (0≤x.1∧x.1+x.2.2.length≤2)∧ ∀z∈x.2.2,z∈WZ) (fun x=> [(12,enc x.1)]) (fun x=> [(11, .box b11 [.v (.int .i64 8), .v (.string a), .v (.string c), .v (.string ⟨#[]⟩), .v (.string ⟨#[]⟩), .v (.string ⟨#[]⟩), .v (.bool false), .v (.int .i64 0), .v (.int .i64 0), .own 111 x.2.1, .v (.slice none 0 0)]),(111, .row x.2.1 aF 1 (x.2.2.map enc))]) (fun x=> x.1.toNat) (y, .slice none 0 0, []) [11,111] (fun _=> rfl) (by decide) (by decide) ?_ ?_ ?_ ?_
   ·exact⟨⟨y0,by simp;omega⟩,by simp⟩
   ·simp
   ·simp[isNilRow]
    exact .nilown 111
   ·rintro⟨i,v,l⟩ ⟨⟨e1,e2⟩,e3⟩
    simp only at e1 e2 e3
    simp[h1,Uv,vF,Ap]
    exact⟨fun hi z z0 z1=> ⟨z0,z1,fun w hw=> ⟨by omega,by omega,fun v=> ⟨by simp only[InR];omega,i -1,v,l++ [w],⟨⟨by omega,by simp;omega⟩,fun z hz=> (List.mem_append.1 hz).elim (e3 z) fun h=> by simp at h;subst h;exact qjj hw⟩,⟨rfl, .inl (.inl rfl), .inl (.inl (by simp))⟩,by omega⟩⟩⟩,fun hi=> ip l [] (th aF (by simp)) (.nil _) (.path _ a c l ma mc (by omega) e3)⟩
  ·exact fun hg=> ip [] [g] (.nil _) (by simp) (by show GG lb deep.toNat _;rw[hdn (by omega)];exact .not _ _ hg)
 ·rintro -hk
  have hrec:Ia n (L,deep -1,lb):=⟨by show(deep -1).toNat < n;omega,by show -10≤deep -1;omega,by show deep -1≤100;omega,hlb0,hlb⟩
  have hdn:deep.toNat=(deep -1).toNat+1:=by omega
  simp[h3,hrec]
  exact⟨by simp only[InR];omega,by simp only[InR];omega,by simp only[InR];omega,fun y hy=> ⟨by simp only[InR];omega,fun z hz=> ip [] [y,z] (.nil _) (by simp) (by show GG lb deep.toNat _;rw[hdn];exact .two _ _ _ _ (by omega) hy hz)⟩⟩
abbrev nj:Spc:=dG (aT (a2 Int (List B))) (fun x=> ∃n,Ia n x) (enc (X:=Glob)) Qk
abbrev vL:Spc:=dG (aT a0) Ze (enc (X:=jT)) (fun _ y=> GF y)
theorem Mw (h1:S ap=s_m_Next) (h2:S gq=jJ):Walk nR nz S (aT a0) Ze (enc (X:=jT)) (fun _ y=> GF y):=by
 rintro⟨L,⟨⟩⟩ -
 simp[nR,nz,h1,h2]
 refine fun b y y0 y1=> ⟨by simp only[InR];omega,fun z z0 z1 u u0 u1=> ⟨trivial,fun t ht=> ?_⟩⟩
 exact fK (⟨1+y,decide (z=2),t⟩:jT) (by simp) ⟨by show 1+y=1∨1+y=2∨1+y=3;omega,ht⟩
def H8 (x:List Int×Int) (q:Qry):Prop:=GQ x.2.toNat q
abbrev yW:Spc:=dG (aT (a1 Int)) (fun x=> 0≤x.2∧x.2≤5) (enc (X:=Qry)) H8
theorem OH (h1:S ap=s_m_Next) (h2:S bC=r6) (h3:S f7=s_Bound2) (h4:S mM=yV) (h5:S bx=nj) (h6:S ir=vL):
 Walk pz ph S (aT (a1 Int)) (fun x=> 0≤x.2∧x.2≤5) (enc (X:=Qry)) H8:=by
 rintro⟨L,deep⟩ ⟨hd0,hd1⟩
 simp only at hd0 hd1
 simp[pz,ph,h1]
 intro b4
 refine fG (X:=List B) [0,1,4] [4] (fun l=> J3 l∧l.length≤2) (fun l=> [(5,enc l)]) (fun _=> []) ?_ ?_
 ·simp[h1]
  exact fun _ _ _=> ⟨fun _=> ⟨[qdJ,qdI],⟨fun l hl=> by simpa using hl,by simp⟩,by simp[qdJ,qdI]⟩,fun _ l hl=> by simp at hl⟩
 rintro lb ⟨hlb,hll⟩
 simp[h1,h2]
 refine⟨⟨by omega,by omega,by omega⟩,fun y hy b=> ?_⟩
 have hw:WP lb deep.toNat y:=hy.1.1
 have hpd:PD deep.toNat y:=hy.1.2
 have hnum:xM y≤1000000:=by
  have:=(Qr _ y hw (by omega)).2.2
  have h2:2^ (deep.toNat+1)≤64:=Nat.pow_le_pow_right (n:=2) (by omega) (show deep.toNat+1≤6 by omega)
  omega
 have hB:ZI y []:=by show 0+xM y≤_;omega
 have hbd: ∃n,PD n y:=⟨_,hpd⟩
 simp[h3,hB]
 refine .inl fun l hl=> ?_
 have hlq:l=jG y []:=hl
 have hlm:l.length≤0+xM y:=by rw[hlq];exact Oh y []
 simp[h4,hbd]
 intro p hp z z0 z1 b7
 have hp:p=kT l y:=hp
 have hq: ∀g fs s,(g=fP∨GG l 2 g)→(fs.length≤1∧ ∀f∈fs,GF f)→(0≤s∧s < 4)→H8 (L,deep) ⟨p,g,fs,s⟩:=by
  intro g fs s hg hfs hs
  have hbl:jG p []=l:=by rw[hp,WL,←hlq]
  refine⟨⟨lb,hlb,by show WP lb deep.toNat p;rw[hp];exact XI _ _ hw⟩,?_,by show g=fP∨GG (jG p []) 2 g;rw[hbl];exact hg,hfs,hs⟩
  show ∀y∈aY p,GC (jG p []) 1 y.cond
  rw[hbl,hp,Np]
  intro x hx
  obtain⟨u,hu,rfl⟩:=List.mem_map.1 hx
  rw[oV]
  exact qaL (hy.2 u hu)
 refine rF (X:=Glob) [0,4] [4] [] [] (qmM l) (fun _=> [(7, .bptr 7 b7 0)]) (fun g=> [(7, .box b7 [.v (.int .i64 p.op), .v (.int .i64 p.cond.op), .v (.string p.cond.name), .v (.string p.cond.arg), .v (.string p.cond.val), .v (.string p.cond.lab), .v (.bool p.cond.fold),enc p.cond.kids, .v (.string p.lab), .v (.string p.reg), .v (.int .i64 p.mn), .v (.int .i64 p.mx),enc p.kids, .v (.int .i64 g.op), .v (.string g.a), .v (.string g.b), .v (.string g.name), .v (.string g.arg), .v (.string g.val), .v (.bool g.fold), .v (.int .i64 g.mn), .v (.int .i64 g.mx),enc g.args,enc g.kids, .v (.slice none 0 0), .v (.int .i64 z)])]) [7] (fun _=> rfl) (by decide) ?_ ?_
 ·simp[h1,h5, -Bool.forall_bool]
  refine fun _=> ⟨fun hl0 u u0 u1=> ⟨fun _=> ⟨⟨3,by show(2:Int).toNat < 3;decide,by show -10≤(2:Int);decide,by show(2:Int)≤100;decide,hl0,by show l.length≤1000000;omega⟩,fun g hg=> ⟨g, .inr hg, .inl (.inl ⟨rfl,rfl,rfl,rfl,rfl,rfl,rfl,rfl,rfl,rfl,rfl⟩)⟩⟩,fun _=> ⟨⟨0,⟨#[]⟩,⟨#[]⟩,⟨#[]⟩,⟨#[]⟩,⟨#[]⟩,false,0,0, [], []⟩, .inl rfl, .inl ⟨rfl,rfl,rfl,rfl,rfl,rfl,rfl,rfl,rfl,rfl,rfl⟩⟩⟩,fun _=> ⟨⟨0,⟨#[]⟩,⟨#[]⟩,⟨#[]⟩,⟨#[]⟩,⟨#[]⟩,false,0,0, [], []⟩, .inl rfl, .inl ⟨rfl,rfl,rfl,rfl,rfl,rfl,rfl,rfl,rfl,rfl,rfl⟩⟩⟩
 rintro g hg
 refine rF (X:=List jT) [4] [4] [49] [] (fun fs=> fs.length≤1∧ ∀f∈fs,GF f) (fun _=> [(7, .bptr 7 b7 0)]) (fun fs=> [(7, .box b7 [.v (.int .i64 p.op), .v (.int .i64 p.cond.op), .v (.string p.cond.name), .v (.string p.cond.arg), .v (.string p.cond.val), .v (.string p.cond.lab), .v (.bool p.cond.fold),enc p.cond.kids, .v (.string p.lab), .v (.string p.reg), .v (.int .i64 p.mn), .v (.int .i64 p.mx),enc p.kids, .v (.int .i64 g.op), .v (.string g.a), .v (.string g.b), .v (.string g.name), .v (.string g.arg), .v (.string g.val), .v (.bool g.fold), .v (.int .i64 g.mn), .v (.int .i64 g.mx),enc g.args,enc g.kids,enc fs, .v (.int .i64 z)])]) [7] (fun _=> rfl) (by decide) ?_ ?_
 ·simp[h1]
  intro u u0 u1
  have ut:u.tdiv 2=u/2:=Int.tdiv_eq_ediv_of_nonneg u0
  rw[ut]
  refine⟨by simp only[InR];omega,?_⟩
  refine lL (X:=Int×Value×List jT) [0,4,7] [4] [] [] [] [] (fun x=> (0≤x.1∧x.1+x.2.2.length≤1)∧ ∀f∈x.2.2,GF f) (fun x=> [(8,enc x.1)]) (fun x=> [(7, .box b7 [.v (.int .i64 p.op), .v (.int .i64 p.cond.op), .v (.string p.cond.name), .v (.string p.cond.arg), .v (.string p.cond.val), .v (.string p.cond.lab), .v (.bool p.cond.fold),enc p.cond.kids, .v (.string p.lab), .v (.string p.reg), .v (.int .i64 p.mn), .v (.int .i64 p.mx),enc p.kids, .v (.int .i64 g.op), .v (.string g.a), .v (.string g.b), .v (.string g.name), .v (.string g.arg), .v (.string g.val), .v (.bool g.fold), .v (.int .i64 g.mn), .v (.int .i64 g.mx),enc g.args,enc g.kids, .own 49 x.2.1, .v (.int .i64 z)]),(49, .row x.2.1 db 3 (x.2.2.map enc))]) (fun x=> x.1.toNat) (u/2, .slice none 0 0, []) [7,49] (fun _=> rfl) (by decide) (by decide) ?_ ?_ ?_ ?_
  ·exact⟨⟨by show 0≤u/2;omega,by simp;omega⟩,by simp⟩
  ·simp
  ·simp[isNilRow]
   exact .nilown 49
  ·rintro⟨i,v,fs⟩ ⟨⟨e1,e2⟩,e3⟩
   simp only at e1 e2 e3
   simp[h6]
   refine⟨fun hi=> ⟨trivial,fun y hy=> ⟨by omega,by omega,fun v=> ⟨by simp only[InR];omega,i -1,v,fs++ [y],⟨⟨by omega,by simp;omega⟩,fun z hz=> (List.mem_append.1 hz).elim (e3 z) fun h=> by simp at h;subst h;exact hy⟩,⟨rfl, .inl (.inl rfl), .inl (.inl (by simp))⟩,by omega⟩⟩⟩,fun hi=> ⟨fs,⟨by omega,e3⟩, .inl (th db (by simp[Ny]))⟩⟩
 ·rintro fs hfs
  simp
  exact fK (⟨p,g,fs,z⟩:Qry) (by simp) (hq _ _ _ hg hfs ⟨z0,z1⟩)
end Go.Gv
