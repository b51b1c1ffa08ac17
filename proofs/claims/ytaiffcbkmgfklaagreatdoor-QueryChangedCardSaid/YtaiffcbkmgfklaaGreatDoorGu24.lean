/- A part of the framework and of the walks: W96 W97 V21 V22. -/
import Derived.Test.YtaiffcbkmgfklaaGreatDoorGu19
import Derived.Test.YtaiffcbkmgfklaaGreatDoorGu23
import Derived.Test.YtaiffcbkmgfklaaGreatDoorGu18
import Derived.Test.YtaiffcbkmgfklaaGreatDoorGu20
import Derived.Test.YtaiffcbkmgfklaaGreatDoorGu21
import Derived.Test.YtaiffcbkmgfklaaGreatDoorGu17
set_option linter.unusedSimpArgs false
set_option linter.unusedVariables false
set_option maxRecDepth 100000

namespace Go.Gv
open Cod (enc dec)
variable {S S0:Nat→Spc}
theorem qmg {β:Type} {F0 A:Option β} {c:Prop} [Decidable c] {K:Prop} (hf: ∃r,F0=some r) (e:F0=if c then A else none) (h:c→F0=A→K):K:=by
 by_cases hc:c
 ·rw[if_pos hc] at e;exact h hc e
 ·rw[if_neg hc] at e;exact QL hf e
@[simp] abbrev Rr (A:Pst→Option (Pst×Pat)) (O:Pst→Option (Pst×Cond)) (s:Pst) (_:Unit):Option (Pst×Pat):=itemG A O s
abbrev KU (A:Pst→Option (Pst×Pat)) (O:Pst→Option (Pst×Cond)):Spc:=z3 a0 (enc (X:=Pat)) (Rr A O)
@[simp] abbrev Xn (A:Pst→Option (Pst×Pat)) (O:Pst→Option (Pst×Cond)) (s:Pst) (_:Unit):Option (Pst×Pat):=repG A O s
abbrev Pd (A:Pst→Option (Pst×Pat)) (O:Pst→Option (Pst×Cond)):Spc:=z3 a0 (enc (X:=Pat)) (Xn A O)
@[simp] abbrev Xm (A:Pst→Option (Pst×Pat)) (O:Pst→Option (Pst×Cond)) (s:Pst) (_:Unit):Option (Pst×Pat):=seqG A O s
abbrev Pc (A:Pst→Option (Pst×Pat)) (O:Pst→Option (Pst×Cond)):Spc:=z3 a0 (enc (X:=Pat)) (Xm A O)
@[simp] abbrev Xq (A:Pst→Option (Pst×Pat)) (s:Pst) (_:Unit):Option (Pst×Pat):=A s
abbrev F2 (A:Pst→Option (Pst×Pat)):Spc:=z3 a0 (enc (X:=Pat)) (Xq A)
@[simp] abbrev Zh (O:Pst→Option (Pst×Cond)) (s:Pst) (_:Unit):Option (Pst×Cond):=O s
abbrev QF (O:Pst→Option (Pst×Cond)):Spc:=z3 a0 (enc (X:=Cond)) (Zh O)
theorem qdd {b:Nat} {post:Pst→Pat→Prop} {H:ab} {op:Int} {lb rg:B} {d:D} {mn mx:Int} (s:Pst) (x:Cond) (ks:List Pat) (hd:FrzTo (fun i=> if i=0 then none else H i) d (enc ks))
 (h0:H 0=some (.box b (dF s))) (hq:post s ⟨op,x,lb,rg,mn,mx,ks⟩):
 rT enc b post (.agg [.v (.int .i64 op), .v (.int .i64 x.op), .v (.string x.name), .v (.string x.arg), .v (.string x.val), .v (.string x.lab), .v (.bool x.fold), .list 7 (x.kids.map enc), .v (.string lb), .v (.string rg), .v (.int .i64 mn), .v (.int .i64 mx),d]) H:=
 by cases x;exact YR s _ ks (by simp) hd h0 hq
theorem TN (A:Pst→Option (Pst×Pat)) (O:Pst→Option (Pst×Cond)) (h1:S ah=gK) (h2:S dA=F2 A) (h3:S af=gW) (h4:S am=ik) (h5:S bG=yZ) (h6:S d5=QF O):
 gR lB la S a0 (enc (X:=Pat)) (Rr A O):=by
 rintro b s ⟨⟩ hf
 have hf: ∃r,itemG A O s=some r:=hf
 have e:=itemG.eq_1 A O s
 simp only[BB,yN,tB,jV,aU,bn,aS,a6] at e
 simp[lB,la,h1,h2,h3,h4,h5,h6, -Bool.forall_bool, -Bool.exists_bool]
 repeat' first
  | (refine XB hf e (fun hr e=> ?_) (fun e=> ?_) <;> (try simp only[↓reduceIte,if_true,Bool.false_eq_true,if_false,forall_const,IsEmpty.forall_iff,reduceCtorEq,and_true,true_and] at e) <;> (try simp only[↓reduceIte,if_true,Bool.false_eq_true,if_false,forall_const,IsEmpty.forall_iff,reduceCtorEq,and_true,true_and]))
  | refine Yr hf e fun q hq e=> ?_
  | refine Lc hf e fun q hq e=> ?_
  | refine pB hf e fun q e=> ?_
  | refine pM hf e fun q e=> ?_
  | refine pE hf e fun q e=> ?_
  | (refine⟨fun hc=> ?_,fun hn=> absurd (by assumption) hn⟩; (try first | rw[if_pos hc] at e | rw[if_neg hc] at e | rw[if_neg (Int.not_lt.2 hc)] at e | simp only[hc,decide_true,decide_false, ↓reduceIte,if_true,if_false,Bool.false_eq_true,ne_eq,not_true_eq_false,not_false_eq_true] at e);try simp only[Option.bind_some,Option.map_some,aU,aS,a6,bn, ↓reduceIte,Bool.false_eq_true,if_true,if_false] at e)
  | (refine⟨fun hn=> absurd hn (by assumption),fun hc=> ?_⟩; (try first | rw[if_pos hc] at e | rw[if_neg hc] at e | rw[if_neg (Int.not_lt.2 hc)] at e | simp only[hc,decide_true,decide_false, ↓reduceIte,if_true,if_false,Bool.false_eq_true,ne_eq,not_true_eq_false,not_false_eq_true] at e);try simp only[Option.bind_some,Option.map_some,aU,aS,a6,bn, ↓reduceIte,Bool.false_eq_true,if_true,if_false] at e)
  | ((refine⟨fun hc=> ?_,fun hc=> ?_⟩ <;> first | (cases hc;done) | rw[if_pos hc] at e | rw[if_neg hc] at e | rw[if_neg (Int.not_lt.2 hc)] at e | simp only[hc,decide_true,decide_false, ↓reduceIte,if_true,if_false,Bool.false_eq_true,ne_eq,not_true_eq_false,not_false_eq_true] at e) <;> try simp only[Option.bind_some,Option.map_some,aU,aS,a6,bn, ↓reduceIte,Bool.false_eq_true,if_true,if_false] at e)
  | (refine qmg hf e fun hb e=> ?_)
  | refine⟨by simp only[InR];omega,?_⟩
  | exact YR _ [] [] (.nil _) (.nil _) (by simp) e
  | exact qdd _ _ [] (.nil _) (by simp) e
  | exact jY _ _ (by simp) (by simp) e
  | refine⟨‹InR _ _›,?_⟩
  | intro _
theorem XO (A:Pst→Option (Pst×Pat)) (O:Pst→Option (Pst×Cond)) (h1:S am=ik) (h2:S ah=gK) (h3:S af=gW) (h4:S bb=nk) (h5:S gl=KU A O) (h6:S bJ=tM):
 gR mR mj S a0 (enc (X:=Pat)) (Xn A O):=by
 rintro b s ⟨⟩ hf
 have hf: ∃r,repG A O s=some r:=hf
 have e:=repG.eq_1 A O s
 simp[mR,mj,h1,h2,h3,h4,h5,h6, -Bool.forall_bool, -Bool.exists_bool]
 intro b2
 refine pB hf e fun r e=> ?_
 intro b3
 refine lL (X:=Nat×Pst×Pat) [0,2,3] [2] [] [] [] [] (fun z=> repG A O s=mB z.1 z.2.1 z.2.2) (fun _=> []) (fun z=> [(0, .box b (dF z.2.1)),(3, .box b3 (enc z.2.2).cells)]) (fun z=> z.1) (500,r.1,r.2) [0,3] (fun _=> rfl) (by decide) (by decide) e (by simp) (by simp) ?_
 clear e
 rintro⟨k,s1,x⟩ e
 simp only at e
 obtain _ | k:=k
 ·exact QL hf (by rw[e,mB])
 rw[mB] at e
 simp only[X8,jV,aU,bn,aS,a6] at e
 simp[h1,h2,h3,h4,h6, -Bool.forall_bool, -Bool.exists_bool]
 repeat' first
  | (refine XB hf e (fun hr e=> ?_) (fun e=> ?_) <;> (try simp only[↓reduceIte,if_true,Bool.false_eq_true,if_false,forall_const,IsEmpty.forall_iff,reduceCtorEq,and_true,true_and] at e) <;> (try simp only[↓reduceIte,if_true,Bool.false_eq_true,if_false,forall_const,IsEmpty.forall_iff,reduceCtorEq,and_true,true_and]))
  | refine Yr hf e fun q hq e=> ?_
  | refine Lc hf e fun q hq e=> ?_
  | refine pB hf e fun q e=> ?_
  | refine pM hf e fun q e=> ?_
  | refine pE hf e fun q e=> ?_
  | (refine⟨fun hc=> ?_,fun hn=> absurd (by assumption) hn⟩; (try first | rw[if_pos hc] at e | rw[if_neg hc] at e | rw[if_neg (Int.not_lt.2 hc)] at e | simp only[hc,decide_true,decide_false, ↓reduceIte,if_true,if_false,Bool.false_eq_true,ne_eq,not_true_eq_false,not_false_eq_true] at e);try simp only[Option.bind_some,Option.map_some,aU,aS,a6,bn, ↓reduceIte,Bool.false_eq_true,if_true,if_false] at e)
  | (refine⟨fun hn=> absurd hn (by assumption),fun hc=> ?_⟩; (try first | rw[if_pos hc] at e | rw[if_neg hc] at e | rw[if_neg (Int.not_lt.2 hc)] at e | simp only[hc,decide_true,decide_false, ↓reduceIte,if_true,if_false,Bool.false_eq_true,ne_eq,not_true_eq_false,not_false_eq_true] at e);try simp only[Option.bind_some,Option.map_some,aU,aS,a6,bn, ↓reduceIte,Bool.false_eq_true,if_true,if_false] at e)
  | ((refine⟨fun hc=> ?_,fun hc=> ?_⟩ <;> first | (cases hc;done) | rw[if_pos hc] at e | rw[if_neg hc] at e | rw[if_neg (Int.not_lt.2 hc)] at e | simp only[hc,decide_true,decide_false, ↓reduceIte,if_true,if_false,Bool.false_eq_true,ne_eq,not_true_eq_false,not_false_eq_true] at e) <;> try simp only[Option.bind_some,Option.map_some,aU,aS,a6,bn, ↓reduceIte,Bool.false_eq_true,if_true,if_false] at e)
  | (refine⟨k,_,_,e,⟨.inl (.inl ⟨rfl,rfl,rfl,rfl,rfl⟩), .inl ?_⟩,Nat.lt_succ_self _⟩;simp[Cond0,E0];done)
  | exact jY _ _ (by simp) (by simp) e
  | refine⟨‹InR _ _›,?_⟩
  | intro _
theorem XN (A:Pst→Option (Pst×Pat)) (O:Pst→Option (Pst×Cond)) (h1:S eU=Cf) (h2:S fB=Pd A O):
 gR mQ mi S a0 (enc (X:=Pat)) (Xm A O):=by
 rintro b s ⟨⟩ hf
 have hf: ∃r,seqG A O s=some r:=hf
 have e:=seqG.eq_1 A O s
 simp[mQ,mi,h1,h2, -Bool.forall_bool, -Bool.exists_bool]
 intro b2
 refine pB hf e fun r e=> ?_
 intro v0
 refine cy (X:=Nat×Pst×Value×List Pat) [0,2] [2] (fun z=> seqG A O s=((md A O z.1 z.2.1 z.2.2.2).map fun q=> (q.1,sX 4 q.2))∧z.2.2.2.length+z.1≤501) (fun z=> [(3, .own 6 z.2.2.1)]) (fun z=> [(0, .box b (dF z.2.1)),(6, .row z.2.2.1 ag 13 (z.2.2.2.map enc))]) (fun z=> z.1) (500,r.1,v0, [r.2]) ⟨e,by simp⟩ (by simp) (by simp) ?_
 clear e
 rintro⟨k,s1,v,l⟩ ⟨e,hlen⟩
 simp only at e hlen
 obtain _ | k:=k
 ·exact QL hf (by rw[e,md];rfl)
 rw[md,aU] at e
 simp[h1]
 refine pB hf e fun w e=> ?_
 simp[-Bool.forall_bool, -Bool.exists_bool,h2]
 refine⟨fun hw=> ?_,fun hw=> ?_⟩
 ·rw[if_pos hw,aU] at e
  exact pB hf e fun r2 e=> ⟨by omega,by omega,fun v'=> ⟨k,r2.1,v',l++ [r2.2],⟨e,by simp;omega⟩,⟨rfl, .inl ⟨rfl,rfl,rfl,rfl,rfl⟩, .inl ⟨rfl,by simp⟩⟩,by omega⟩⟩
 ·rw[if_neg (by simp[hw]),Option.map_some] at e
  clear h1 h2
  refine fun _=> ⟨fun hl1=> ⟨by omega,fun a ha=> ?_⟩,fun hne=> ?_⟩
  ·rw[BW (by omega) ha] at e
   exact jY s1 a (by simp) (by simp) e
  ·rw[Ld (l:=l) (by omega)] at e
   exact YR s1 [] l (.nil _) (th ag (by simp)) (by simp) e
theorem XS (A:Pst→Option (Pst×Pat)) (O:Pst→Option (Pst×Cond)) (h1:S ah=gK) (h2:S fA=Pc A O):
 gR mX ms S a0 (enc (X:=Pat)) (Xq (altG A O)):=by
 rintro b s ⟨⟩ hf
 have hf: ∃r,altG A O s=some r:=hf
 have e:=altG.eq_1 A O s
 simp[mX,ms,h1,h2, -Bool.forall_bool, -Bool.exists_bool]
 intro b2
 refine pB hf e fun r e=> ?_
 intro v0
 refine cy (X:=Nat×Pst×Value×List Pat) [0,2] [2] (fun z=> altG A O s=((m9 A O z.1 z.2.1 z.2.2.2).map fun q=> (q.1,sX 5 q.2))∧z.2.2.2.length+z.1≤501) (fun z=> [(3, .own 6 z.2.2.1)]) (fun z=> [(0, .box b (dF z.2.1)),(6, .row z.2.2.1 ag 13 (z.2.2.2.map enc))]) (fun z=> z.1) (500,r.1,v0, [r.2]) ⟨e,by simp⟩ (by simp) (by simp) ?_
 clear e
 rintro⟨k,s1,v,l⟩ ⟨e,hlen⟩
 simp only at e hlen
 obtain _ | k:=k
 ·exact QL hf (by rw[e,m9];rfl)
 rw[m9,aU] at e
 simp[h1]
 refine pB hf e fun w e=> ?_
 simp[-Bool.forall_bool, -Bool.exists_bool,h2]
 refine⟨fun hw=> ?_,fun hw=> ?_⟩
 ·rw[if_pos hw,aU] at e
  exact pB hf e fun r2 e=> ⟨by omega,by omega,fun v'=> ⟨k,r2.1,v',l++ [r2.2],⟨e,by simp;omega⟩,⟨rfl, .inl ⟨rfl,rfl,rfl,rfl,rfl⟩, .inl ⟨rfl,by simp⟩⟩,by omega⟩⟩
 ·rw[if_neg (by simp[hw]),Option.map_some] at e
  clear h1 h2
  refine fun _=> ⟨fun hl1=> ⟨by omega,fun a ha=> ?_⟩,fun hne=> ?_⟩
  ·rw[BW (by omega) ha] at e
   exact jY w.1 a (by simp) (by simp) e
  ·rw[Ld (l:=l) (by omega)] at e
   exact YR w.1 [] l (.nil _) (th ag (by simp)) (by simp) e
end Go.Gv

namespace Go.Gv
open Cod (enc dec)
variable {S S0:Nat→Spc}
theorem Wd {b:Nat} {post:Pst→Glob→Prop} {H:ab} {o mn mx:Int} {a b' n g v:B} {fo:Bool} {da dk:D} (s:Pst) (al:List B) (ks:List Glob) (ha:FrzTo (fun i=> if i=0 then none else H i) da (enc al)) (hd:FrzTo (fun i=> if i=0 then none else H i) dk (enc ks))
 (h0:H 0=some (.box b (dF s))) (hq:post s ⟨o,a,b',n,g,v,fo,mn,mx,al,ks⟩):
 rT enc b post (.agg [.v (.int .i64 o), .v (.string a), .v (.string b'), .v (.string n), .v (.string g), .v (.string v), .v (.bool fo), .v (.int .i64 mn), .v (.int .i64 mx),da,dk]) H:=jY s _ (Hx al ks ha hd) h0 hq
@[simp] abbrev Xk (N:Pst→Option (Pst×Glob)) (s:Pst) (_:Unit):Option (Pst×Glob):=N s
abbrev yX (N:Pst→Option (Pst×Glob)):Spc:=z3 a0 (enc (X:=Glob)) (Xk N)
@[simp] abbrev Xl (N:Pst→Option (Pst×Glob)) (s:Pst) (_:Unit):Option (Pst×Glob):=gandG N s
abbrev Pb (N:Pst→Option (Pst×Glob)):Spc:=z3 a0 (enc (X:=Glob)) (Xl N)
@[simp] abbrev ZL (N:Pst→Option (Pst×Glob)) (s:Pst) (_:Unit):Option (Pst×Glob):=gorG N s
abbrev MT (N:Pst→Option (Pst×Glob)):Spc:=z3 a0 (enc (X:=Glob)) (ZL N)
@[simp] abbrev J4 (s:Pst) (_:Unit):Option (Pst×Int):=signedG s
abbrev Cb:Spc:=z3 a0 (enc (X:=Int)) J4
@[simp] abbrev Rs (s:Pst) (op:Int):Option (Pst×Glob):=callG s op
abbrev KV:Spc:=z3 (a1 Int) (enc (X:=Glob)) Rs
def functionsL:List B:= [E0,⟨#[98,111,117,110,100]⟩,E0,E0,⟨#[100,105,115,116,97,110,99,101]⟩,⟨#[115,97,109,101]⟩,⟨#[104,101,97,100]⟩,⟨#[97,110,99,101,115,116,111,114]⟩,⟨#[112,97,116,104]⟩,⟨#[110,111,100,101]⟩,⟨#[100,101,112,116,104]⟩]
abbrev bY:Spc:=dG a0 (fun _=> True) (enc (X:=List B)) fun _ y=> y=functionsL
theorem IC:Walk nM nr S a0 (fun _=> True) (enc (X:=List B)) fun _ y=> y=functionsL:=by
 rintro x -
 simp[nM,nr]
 exact fK (Y:=List B) functionsL (.same _) rfl
def qar (name:B):Nat→Int
 | 0=> 0
 | k+1=> if name≠E0∧functionsL[k]?=some name then k else qar name k
theorem qaq (name:B):qar name 11=sm name:=by
 have g: ∀ {x:B},¬name=x→ ¬x=name:=fun h e=> h e.symm
 by_cases n1:name=⟨#[98,111,117,110,100]⟩
 ·subst n1;rfl
 by_cases n2:name=⟨#[100,105,115,116,97,110,99,101]⟩
 ·subst n2;rfl
 by_cases n3:name=⟨#[115,97,109,101]⟩
 ·subst n3;rfl
 by_cases n4:name=⟨#[104,101,97,100]⟩
 ·subst n4;rfl
 by_cases n5:name=⟨#[97,110,99,101,115,116,111,114]⟩
 ·subst n5;rfl
 by_cases n6:name=⟨#[112,97,116,104]⟩
 ·subst n6;rfl
 by_cases n7:name=⟨#[110,111,100,101]⟩
 ·subst n7;rfl
 by_cases n8:name=⟨#[100,101,112,116,104]⟩
 ·subst n8;rfl
 by_cases n0:name=E0
 ·subst n0;rfl
 simp[sm,funcsL,List.find?,qar,functionsL,g n0,n0,g n1,g n2,g n3,g n4,g n5,g n6,g n7,g n8]
theorem TP (N:Pst→Option (Pst×Glob)) (h1:S ah=gK) (h2:S bO=yX N):
 gR lD ld S a0 (enc (X:=Glob)) (Xl N):=by
 rintro b s ⟨⟩ hf
 have hf: ∃r,gandG N s=some r:=hf
 have e:=gandG.eq_1 N s
 simp[lD,ld,h1,h2, -Bool.forall_bool, -Bool.exists_bool]
 intro b2
 refine pB hf e fun r e=> ?_
 intro v0
 refine cy (X:=Nat×Pst×Value×List Glob) [0,2] [2] (fun z=> gandG N s=((jN N z.1 z.2.1 z.2.2.2).map fun q=> (q.1,SO 12 q.2))∧z.2.2.2.length+z.1≤501) (fun z=> [(3, .own 6 z.2.2.1)]) (fun z=> [(0, .box b (dF z.2.1)),(6, .row z.2.2.1 aq 11 (z.2.2.2.map enc))]) (fun z=> z.1) (500,r.1,v0, [r.2]) ⟨e,by simp⟩ (by simp) (by simp) ?_
 clear e
 rintro⟨k,s1,v,l⟩ ⟨e,hlen⟩
 simp only at e hlen
 obtain _ | k:=k
 ·exact QL hf (by rw[e,jN];rfl)
 rw[jN,aU] at e
 simp[h1]
 refine pB hf e fun w e=> ?_
 simp[-Bool.forall_bool, -Bool.exists_bool,h2]
 refine⟨fun hw=> ?_,fun hw=> ?_⟩
 ·rw[if_pos hw,aU] at e
  exact pB hf e fun r2 e=> ⟨by omega,by omega,fun v'=> ⟨k,r2.1,v',l++ [r2.2],⟨e,by simp;omega⟩,⟨rfl, .inl ⟨rfl,rfl,rfl,rfl,rfl⟩, .inl ⟨rfl,by simp⟩⟩,by omega⟩⟩
 ·rw[if_neg (by simp[hw]),Option.map_some] at e
  clear h1 h2
  refine fun _=> ⟨fun hl1=> ⟨by omega,fun a ha=> ?_⟩,fun hne=> ?_⟩
  ·rw[BW (by omega) ha] at e
   exact jY w.1 a (by simp) (by simp) e
  ·rw[VT (l:=l) (by omega)] at e
   exact Wd w.1 [] l (.nil _) (th aq (by simp)) (by simp) e
theorem XQ (N:Pst→Option (Pst×Glob)) (h1:S ah=gK) (h2:S eI=Pb N):
 gR mU mp S a0 (enc (X:=Glob)) (ZL N):=by
 rintro b s ⟨⟩ hf
 have hf: ∃r,gorG N s=some r:=hf
 have e:=gorG.eq_1 N s
 simp[mU,mp,h1,h2, -Bool.forall_bool, -Bool.exists_bool]
 intro b2
 refine pB hf e fun r e=> ?_
 intro v0
 refine cy (X:=Nat×Pst×Value×List Glob) [0,2] [2] (fun z=> gorG N s=((mG N z.1 z.2.1 z.2.2.2).map fun q=> (q.1,SO 13 q.2))∧z.2.2.2.length+z.1≤501) (fun z=> [(3, .own 6 z.2.2.1)]) (fun z=> [(0, .box b (dF z.2.1)),(6, .row z.2.2.1 aq 11 (z.2.2.2.map enc))]) (fun z=> z.1) (500,r.1,v0, [r.2]) ⟨e,by simp⟩ (by simp) (by simp) ?_
 clear e
 rintro⟨k,s1,v,l⟩ ⟨e,hlen⟩
 simp only at e hlen
 obtain _ | k:=k
 ·exact QL hf (by rw[e,mG];rfl)
 rw[mG,aU] at e
 simp[h1]
 refine pB hf e fun w e=> ?_
 simp[-Bool.forall_bool, -Bool.exists_bool,h2]
 refine⟨fun hw=> ?_,fun hw=> ?_⟩
 ·rw[if_pos hw,aU] at e
  exact pB hf e fun r2 e=> ⟨by omega,by omega,fun v'=> ⟨k,r2.1,v',l++ [r2.2],⟨e,by simp;omega⟩,⟨rfl, .inl ⟨rfl,rfl,rfl,rfl,rfl⟩, .inl ⟨rfl,by simp⟩⟩,by omega⟩⟩
 ·rw[if_neg (by simp[hw]),Option.map_some] at e
  clear h1 h2
  refine fun _=> ⟨fun hl1=> ⟨by omega,fun a ha=> ?_⟩,fun hne=> ?_⟩
  ·rw[BW (by omega) ha] at e
   exact jY w.1 a (by simp) (by simp) e
  ·rw[VT (l:=l) (by omega)] at e
   exact Wd w.1 [] l (.nil _) (th aq (by simp)) (by simp) e
theorem OK (h1:S ah=gK) (h2:S am=ik) (h3:S bb=nk):
 gR jq iU S a0 (enc (X:=Int)) (J4):=by
 rintro b s ⟨⟩ hf
 have hf: ∃r,signedG s=some r:=hf
 have e:=signedG.eq_1 s
 simp only[L4,jV,aU,bn,aS,a6] at e
 simp[jq,iU,h1,h2,h3, -Bool.forall_bool, -Bool.exists_bool]
 repeat' first
  | (refine XB hf e (fun hr e=> ?_) (fun e=> ?_) <;> (try simp only[↓reduceIte,if_true,Bool.false_eq_true,if_false,forall_const,IsEmpty.forall_iff,reduceCtorEq,and_true,true_and] at e) <;> (try simp only[↓reduceIte,if_true,Bool.false_eq_true,if_false,forall_const,IsEmpty.forall_iff,reduceCtorEq,and_true,true_and]))
  | refine Yr hf e fun q hq e=> ?_
  | refine Lc hf e fun q hq e=> ?_
  | refine pB hf e fun q e=> ?_
  | refine pM hf e fun q e=> ?_
  | refine pE hf e fun q e=> ?_
  | (refine⟨fun hc=> ?_,fun hn=> absurd (by assumption) hn⟩; (try first | rw[if_pos hc] at e | rw[if_neg hc] at e | rw[if_neg (Int.not_lt.2 hc)] at e | simp only[hc,decide_true,decide_false, ↓reduceIte,if_true,if_false,Bool.false_eq_true,ne_eq,not_true_eq_false,not_false_eq_true] at e);try simp only[Option.bind_some,Option.map_some,aU,aS,a6,bn, ↓reduceIte,Bool.false_eq_true,if_true,if_false] at e)
  | (refine⟨fun hn=> absurd hn (by assumption),fun hc=> ?_⟩; (try first | rw[if_pos hc] at e | rw[if_neg hc] at e | rw[if_neg (Int.not_lt.2 hc)] at e | simp only[hc,decide_true,decide_false, ↓reduceIte,if_true,if_false,Bool.false_eq_true,ne_eq,not_true_eq_false,not_false_eq_true] at e);try simp only[Option.bind_some,Option.map_some,aU,aS,a6,bn, ↓reduceIte,Bool.false_eq_true,if_true,if_false] at e)
  | ((refine⟨fun hc=> ?_,fun hc=> ?_⟩ <;> first | (cases hc;done) | rw[if_pos hc] at e | rw[if_neg hc] at e | rw[if_neg (Int.not_lt.2 hc)] at e | simp only[hc,decide_true,decide_false, ↓reduceIte,if_true,if_false,Bool.false_eq_true,ne_eq,not_true_eq_false,not_false_eq_true] at e) <;> try simp only[Option.bind_some,Option.map_some,aU,aS,a6,bn, ↓reduceIte,Bool.false_eq_true,if_true,if_false] at e)
  | exact jY _ _ (by simp) (by simp) e
  | refine⟨by simp only[InR];omega,?_⟩
  | refine⟨‹InR _ _›,?_⟩
  | intro _
theorem TO (N:Pst→Option (Pst×Glob)) (h1:S ah=gK) (h2:S bO=yX N) (h3:S dz=MT N) (h4:S af=gW) (h5:S ba=bY) (h6:S gm=KV) (h7:S am=ik) (h8:S bG=yZ):
 gR lC lc S a0 (enc (X:=Glob)) (Xk (gnotG N (gorG N))):=by
 rintro b s ⟨⟩ hf
 have hf: ∃r,gnotG N (gorG N) s=some r:=hf
 have e:=gnotG.eq_1 N (gorG N) s
 simp[lC,lc,h1,h2,h3,h4,h5,h6,h7,h8, -Bool.forall_bool, -Bool.exists_bool]
 intro b2
 refine pB hf e fun w e=> ?_
 refine⟨fun hw=> ?_,fun hw=> ?_⟩
 ·rw[if_pos hw] at e
  refine pM hf e fun q e=> ?_
  exact Wd _ [] [_] (.nil _) (by simp) (by simp) e
 rw[if_neg (by simp[hw])] at e
 refine pB hf e fun u e=> ?_
 refine⟨fun hu=> ?_,fun hu=> ?_⟩
 ·rw[if_pos hu] at e
  refine pB hf e fun x e=> ?_
  try intro b3
  refine pM hf e fun z e=> ?_
  exact jY _ _ (by simp) (by simp) e
 rw[if_neg (by simp[hu])] at e
 refine pB hf e fun q e=> ?_
 rintro -
 refine aO (X:=Int) [0,2,4,26] [0,2] functionsL.length (fun k x=> x=qar q.2 k) (fun x=> [(5,enc x)]) (fun _=> []) 0 (by simp) (by simp) (by decide) (by simp) (by simp) rfl (by simp) (by simp) ?_ ?_
 ·rintro k x hk hP
  obtain⟨t,ht⟩:=cP hk
  obtain⟨_,hgt⟩:=List.getElem?_eq_some_iff.1 ht
  simp[hk,ht,hgt]
  have e1:qar q.2 (k+1)=if q.2≠E0∧t=q.2 then(k:Int) else qar q.2 k:=by rw[qar,ht];simp
  refine⟨fun n0=> ⟨fun h1=> by rw[e1,if_pos ⟨h1 ▸n0,h1⟩],fun h1=> by rw[e1,if_neg (fun h=> h1 h.2)];exact hP⟩,fun n0=> by rw[e1,if_neg (fun h=> h.1 (h.2 ▸n0))];exact hP⟩
 ·rintro x hP
  have hP:x=sm q.2:=hP.trans (qaq _)
  subst hP
  simp only[zT,jV,aU,bn,aS,a6] at e
  simp[h1,h4,h6,h7,h8, -Bool.forall_bool, -Bool.exists_bool]
  repeat' first
   | (refine XB hf e (fun hr e=> ?_) (fun e=> ?_) <;> (try simp only[↓reduceIte,if_true,Bool.false_eq_true,if_false,forall_const,IsEmpty.forall_iff,reduceCtorEq,and_true,true_and] at e) <;> (try simp only[↓reduceIte,if_true,Bool.false_eq_true,if_false,forall_const,IsEmpty.forall_iff,reduceCtorEq,and_true,true_and]))
   | refine Yr hf e fun q hq e=> ?_
   | refine Lc hf e fun q hq e=> ?_
   | refine pB hf e fun q e=> ?_
   | refine pM hf e fun q e=> ?_
   | refine pE hf e fun q e=> ?_
   | (refine⟨fun hc=> ?_,fun hn=> absurd (by assumption) hn⟩; (try first | rw[if_pos hc] at e | rw[if_neg hc] at e | rw[if_neg (Int.not_lt.2 hc)] at e | simp only[hc,decide_true,decide_false, ↓reduceIte,if_true,if_false,Bool.false_eq_true,ne_eq,not_true_eq_false,not_false_eq_true] at e);try simp only[Option.bind_some,Option.map_some,aU,aS,a6,bn, ↓reduceIte,Bool.false_eq_true,if_true,if_false] at e)
   | (refine⟨fun hn=> absurd hn (by assumption),fun hc=> ?_⟩; (try first | rw[if_pos hc] at e | rw[if_neg hc] at e | rw[if_neg (Int.not_lt.2 hc)] at e | simp only[hc,decide_true,decide_false, ↓reduceIte,if_true,if_false,Bool.false_eq_true,ne_eq,not_true_eq_false,not_false_eq_true] at e);try simp only[Option.bind_some,Option.map_some,aU,aS,a6,bn, ↓reduceIte,Bool.false_eq_true,if_true,if_false] at e)
   | ((refine⟨fun hc=> ?_,fun hc=> ?_⟩ <;> first | (cases hc;done) | rw[if_pos hc] at e | rw[if_neg hc] at e | rw[if_neg (Int.not_lt.2 hc)] at e | simp only[hc,decide_true,decide_false, ↓reduceIte,if_true,if_false,Bool.false_eq_true,ne_eq,not_true_eq_false,not_false_eq_true] at e) <;> try simp only[Option.bind_some,Option.map_some,aU,aS,a6,bn, ↓reduceIte,Bool.false_eq_true,if_true,if_false] at e)
   | exact Wd _ [] [] (.nil _) (.nil _) (by simp) e
   | exact Wd _ [] [_] (.nil _) (by simp) (by simp) e
   | exact jY _ _ (by simp) (by simp) e
   | refine⟨‹InR _ _›,?_⟩
   | intro _
theorem TQ (h1:S ah=gK) (h2:S af=gW) (h3:S am=ik) (h4:S bb=nk) (h5:S dT=Cb):
 gR lF lg S (a1 Int) (enc (X:=Glob)) (Rs):=by
 rintro b s i hf
 have hf: ∃r,callG s i=some r:=hf
 have e:=callG.eq_1 s i
 simp[lF,lg,h1,h2,h3,h4,h5, -Bool.forall_bool, -Bool.exists_bool]
 intro b4
 refine pB hf e fun a e=> ?_
 intro b5
 refine fG (X:=Pst×B) [0,1,4,5] [4] (fun z=> callG s i=(vT z.1 i a.2 z.2).bind fun x=> (bv x.1 111 ⟨#[41]⟩).map fun w=> (w.1,x.2)) (fun _=> []) (fun z=> [(0, .box b (dF z.1)),(5, .box b5 [.v (.int .i64 i), .v (.string a.2), .v (.string z.2), .v (.string ⟨#[]⟩), .v (.string ⟨#[]⟩), .v (.string ⟨#[]⟩), .v (.bool false), .v (.int .i64 0), .v (.int .i64 0), .v (.slice none 0 0), .v (.slice none 0 0)])]) ?_ ?_
 ·simp[h1,h2,h3,h4,h5, -Bool.forall_bool, -Bool.exists_bool]
  have hc1:i=1→callG s i=(vT a.1 i a.2 E0).bind fun x=> (bv x.1 111 ⟨#[41]⟩).map fun w=> (w.1,x.2):=fun h=> by rw[e,if_neg (by omega)]
  have hc2:i=10→callG s i=(vT a.1 i a.2 E0).bind fun x=> (bv x.1 111 ⟨#[41]⟩).map fun w=> (w.1,x.2):=fun h=> by rw[e,if_neg (by omega)]
  refine⟨fun n1=> ⟨fun n10=> ?_,fun h10=> ⟨a.1,E0,hc2 h10, .inl ⟨rfl,rfl,rfl,rfl,rfl⟩, .inl rfl⟩⟩,fun h1=> ⟨a.1,E0,hc1 h1, .inl ⟨rfl,rfl,rfl,rfl,rfl⟩, .inl rfl⟩⟩
  rw[if_pos ⟨n1,n10⟩] at e
  refine pB hf e fun u e=> pB hf e fun v e=> ?_
  exact⟨v.1,v.2,e, .inl ⟨rfl,rfl,rfl,rfl,rfl⟩, .inl rfl⟩
 rintro⟨s2,b2⟩ e
 simp only at e
 refine rF (X:=Pst×Glob) [0,4] [4] [69] [] (fun z=> callG s i=(bv z.1 111 ⟨#[41]⟩).map fun w=> (w.1,z.2)) (fun _=> [(5, .bptr 5 b5 0)]) (fun z=> [(0, .box b (dF z.1)),(5, .box b5 (enc z.2).cells)]) [0,5] (fun _=> rfl) (by decide) ?_ ?_
 ·simp[h1,h2,h3,h4,h5, -Bool.forall_bool, -Bool.exists_bool]
  unfold vT at e
  refine⟨fun g4=> ?_,fun g4=> ?_⟩
  ·rw[if_pos g4] at e
   simp only[aS,aU,a6,bn] at e
   repeat' first
    | (refine XB hf e (fun hr e=> ?_) (fun e=> ?_) <;> (try simp only[↓reduceIte,if_true,Bool.false_eq_true,if_false,forall_const,IsEmpty.forall_iff,reduceCtorEq,and_true,true_and] at e) <;> (try simp only[↓reduceIte,if_true,Bool.false_eq_true,if_false,forall_const,IsEmpty.forall_iff,reduceCtorEq,and_true,true_and]))
    | refine Yr hf e fun q hq e=> ?_
    | refine Lc hf e fun q hq e=> ?_
    | refine pB hf e fun q e=> ?_
    | refine pM hf e fun q e=> ?_
    | refine pE hf e fun q e=> ?_
    | (refine⟨fun hc=> ?_,fun hn=> absurd (by assumption) hn⟩; (try first | rw[if_pos hc] at e | rw[if_neg hc] at e | rw[if_neg (Int.not_lt.2 hc)] at e | simp only[hc,decide_true,decide_false, ↓reduceIte,if_true,if_false,Bool.false_eq_true,ne_eq,not_true_eq_false,not_false_eq_true] at e);try simp only[Option.bind_some,Option.map_some,aU,aS,a6,bn, ↓reduceIte,Bool.false_eq_true,if_true,if_false] at e)
    | (refine⟨fun hn=> absurd hn (by assumption),fun hc=> ?_⟩; (try first | rw[if_pos hc] at e | rw[if_neg hc] at e | rw[if_neg (Int.not_lt.2 hc)] at e | simp only[hc,decide_true,decide_false, ↓reduceIte,if_true,if_false,Bool.false_eq_true,ne_eq,not_true_eq_false,not_false_eq_true] at e);try simp only[Option.bind_some,Option.map_some,aU,aS,a6,bn, ↓reduceIte,Bool.false_eq_true,if_true,if_false] at e)
    | ((refine⟨fun hc=> ?_,fun hc=> ?_⟩ <;> first | (cases hc;done) | rw[if_pos hc] at e | rw[if_neg hc] at e | rw[if_neg (Int.not_lt.2 hc)] at e | simp only[hc,decide_true,decide_false, ↓reduceIte,if_true,if_false,Bool.false_eq_true,ne_eq,not_true_eq_false,not_false_eq_true] at e) <;> try simp only[Option.bind_some,Option.map_some,aU,aS,a6,bn, ↓reduceIte,Bool.false_eq_true,if_true,if_false] at e)
    | (refine⟨_,_,e, .inl (.inl ⟨rfl,rfl,rfl,rfl,rfl⟩),?_⟩;simp[E0];done)
    | refine⟨‹InR _ _›,?_⟩
    | intro _
  rw[if_neg g4] at e
  refine⟨fun g4=> ?_,fun g4=> ?_⟩
  ·rw[if_pos g4] at e
   simp only[L4,aS,aU,a6,bn] at e
   repeat' first
    | (refine XB hf e (fun hr e=> ?_) (fun e=> ?_) <;> (try simp only[↓reduceIte,if_true,Bool.false_eq_true,if_false,forall_const,IsEmpty.forall_iff,reduceCtorEq,and_true,true_and] at e) <;> (try simp only[↓reduceIte,if_true,Bool.false_eq_true,if_false,forall_const,IsEmpty.forall_iff,reduceCtorEq,and_true,true_and]))
    | refine Yr hf e fun q hq e=> ?_
    | refine Lc hf e fun q hq e=> ?_
    | refine pB hf e fun q e=> ?_
    | refine pM hf e fun q e=> ?_
    | refine pE hf e fun q e=> ?_
    | (refine⟨fun hc=> ?_,fun hn=> absurd (by assumption) hn⟩; (try first | rw[if_pos hc] at e | rw[if_neg hc] at e | rw[if_neg (Int.not_lt.2 hc)] at e | simp only[hc,decide_true,decide_false, ↓reduceIte,if_true,if_false,Bool.false_eq_true,ne_eq,not_true_eq_false,not_false_eq_true] at e);try simp only[Option.bind_some,Option.map_some,aU,aS,a6,bn, ↓reduceIte,Bool.false_eq_true,if_true,if_false] at e)
    | (refine⟨fun hn=> absurd hn (by assumption),fun hc=> ?_⟩; (try first | rw[if_pos hc] at e | rw[if_neg hc] at e | rw[if_neg (Int.not_lt.2 hc)] at e | simp only[hc,decide_true,decide_false, ↓reduceIte,if_true,if_false,Bool.false_eq_true,ne_eq,not_true_eq_false,not_false_eq_true] at e);try simp only[Option.bind_some,Option.map_some,aU,aS,a6,bn, ↓reduceIte,Bool.false_eq_true,if_true,if_false] at e)
    | ((refine⟨fun hc=> ?_,fun hc=> ?_⟩ <;> first | (cases hc;done) | rw[if_pos hc] at e | rw[if_neg hc] at e | rw[if_neg (Int.not_lt.2 hc)] at e | simp only[hc,decide_true,decide_false, ↓reduceIte,if_true,if_false,Bool.false_eq_true,ne_eq,not_true_eq_false,not_false_eq_true] at e) <;> try simp only[Option.bind_some,Option.map_some,aU,aS,a6,bn, ↓reduceIte,Bool.false_eq_true,if_true,if_false] at e)
    | (refine⟨_,_,e, .inl (.inl ⟨rfl,rfl,rfl,rfl,rfl⟩),?_⟩;simp[E0];done)
    | refine⟨‹InR _ _›,?_⟩
    | intro _
  rw[if_neg g4] at e
  refine⟨fun g5=> ?_,fun g5=> ?_⟩
  ·rw[if_pos (.inl g5)] at e
   simp only[aS,aU,a6,bn] at e
   refine⟨fun _=> ?_,fun h=> absurd g5 h⟩
   repeat' first
    | (refine XB hf e (fun hr e=> ?_) (fun e=> ?_) <;> (try simp only[↓reduceIte,if_true,Bool.false_eq_true,if_false,forall_const,IsEmpty.forall_iff,reduceCtorEq,and_true,true_and] at e) <;> (try simp only[↓reduceIte,if_true,Bool.false_eq_true,if_false,forall_const,IsEmpty.forall_iff,reduceCtorEq,and_true,true_and]))
    | refine Yr hf e fun q hq e=> ?_
    | refine Lc hf e fun q hq e=> ?_
    | refine pB hf e fun q e=> ?_
    | refine pM hf e fun q e=> ?_
    | refine pE hf e fun q e=> ?_
    | (refine⟨fun hc=> ?_,fun hn=> absurd (by assumption) hn⟩; (try first | rw[if_pos hc] at e | rw[if_neg hc] at e | rw[if_neg (Int.not_lt.2 hc)] at e | simp only[hc,decide_true,decide_false, ↓reduceIte,if_true,if_false,Bool.false_eq_true,ne_eq,not_true_eq_false,not_false_eq_true] at e);try simp only[Option.bind_some,Option.map_some,aU,aS,a6,bn, ↓reduceIte,Bool.false_eq_true,if_true,if_false] at e)
    | (refine⟨fun hn=> absurd hn (by assumption),fun hc=> ?_⟩; (try first | rw[if_pos hc] at e | rw[if_neg hc] at e | rw[if_neg (Int.not_lt.2 hc)] at e | simp only[hc,decide_true,decide_false, ↓reduceIte,if_true,if_false,Bool.false_eq_true,ne_eq,not_true_eq_false,not_false_eq_true] at e);try simp only[Option.bind_some,Option.map_some,aU,aS,a6,bn, ↓reduceIte,Bool.false_eq_true,if_true,if_false] at e)
    | ((refine⟨fun hc=> ?_,fun hc=> ?_⟩ <;> first | (cases hc;done) | rw[if_pos hc] at e | rw[if_neg hc] at e | rw[if_neg (Int.not_lt.2 hc)] at e | simp only[hc,decide_true,decide_false, ↓reduceIte,if_true,if_false,Bool.false_eq_true,ne_eq,not_true_eq_false,not_false_eq_true] at e) <;> try simp only[Option.bind_some,Option.map_some,aU,aS,a6,bn, ↓reduceIte,Bool.false_eq_true,if_true,if_false] at e)
    | (refine⟨_,_,e, .inl (.inl ⟨rfl,rfl,rfl,rfl,rfl⟩),?_⟩;simp[E0];done)
    | refine⟨‹InR _ _›,?_⟩
    | intro _
  refine⟨fun g9=> ?_,fun g9=> ?_⟩
  ·rw[if_pos (.inr g9)] at e
   simp only[aS,aU,a6,bn] at e
   repeat' first
    | (refine XB hf e (fun hr e=> ?_) (fun e=> ?_) <;> (try simp only[↓reduceIte,if_true,Bool.false_eq_true,if_false,forall_const,IsEmpty.forall_iff,reduceCtorEq,and_true,true_and] at e) <;> (try simp only[↓reduceIte,if_true,Bool.false_eq_true,if_false,forall_const,IsEmpty.forall_iff,reduceCtorEq,and_true,true_and]))
    | refine Yr hf e fun q hq e=> ?_
    | refine Lc hf e fun q hq e=> ?_
    | refine pB hf e fun q e=> ?_
    | refine pM hf e fun q e=> ?_
    | refine pE hf e fun q e=> ?_
    | (refine⟨fun hc=> ?_,fun hn=> absurd (by assumption) hn⟩; (try first | rw[if_pos hc] at e | rw[if_neg hc] at e | rw[if_neg (Int.not_lt.2 hc)] at e | simp only[hc,decide_true,decide_false, ↓reduceIte,if_true,if_false,Bool.false_eq_true,ne_eq,not_true_eq_false,not_false_eq_true] at e);try simp only[Option.bind_some,Option.map_some,aU,aS,a6,bn, ↓reduceIte,Bool.false_eq_true,if_true,if_false] at e)
    | (refine⟨fun hn=> absurd hn (by assumption),fun hc=> ?_⟩; (try first | rw[if_pos hc] at e | rw[if_neg hc] at e | rw[if_neg (Int.not_lt.2 hc)] at e | simp only[hc,decide_true,decide_false, ↓reduceIte,if_true,if_false,Bool.false_eq_true,ne_eq,not_true_eq_false,not_false_eq_true] at e);try simp only[Option.bind_some,Option.map_some,aU,aS,a6,bn, ↓reduceIte,Bool.false_eq_true,if_true,if_false] at e)
    | ((refine⟨fun hc=> ?_,fun hc=> ?_⟩ <;> first | (cases hc;done) | rw[if_pos hc] at e | rw[if_neg hc] at e | rw[if_neg (Int.not_lt.2 hc)] at e | simp only[hc,decide_true,decide_false, ↓reduceIte,if_true,if_false,Bool.false_eq_true,ne_eq,not_true_eq_false,not_false_eq_true] at e) <;> try simp only[Option.bind_some,Option.map_some,aU,aS,a6,bn, ↓reduceIte,Bool.false_eq_true,if_true,if_false] at e)
    | (refine⟨_,_,e, .inl (.inl ⟨rfl,rfl,rfl,rfl,rfl⟩),?_⟩;simp[E0];done)
    | refine⟨‹InR _ _›,?_⟩
    | intro _
  rw[if_neg (by omega)] at e
  refine⟨fun g8=> ?_,fun g8=> ?_⟩
  rotate_left
  ·rw[if_neg g8] at e
   refine⟨_,_,e, .inl (.inl ⟨rfl,rfl,rfl,rfl,rfl⟩),?_⟩
   simp[E0]
  rw[if_pos g8,a6] at e
  refine lL (X:=Nat×Pst×Value×List B) [0,4,5] [4] [] [] [] [] (fun z=> (callG s i=(jS z.1 z.2.1 z.2.2.2).bind fun l=> (bv l.1 111 ⟨#[41]⟩).map fun w=> (w.1,(⟨i,a.2,b2,E0,E0,E0,false,0,0,l.2, []⟩:Glob)))∧z.2.2.2.length+z.1≤500) (fun _=> []) (fun z=> [(0, .box b (dF z.2.1)),(5, .box b5 [.v (.int .i64 i), .v (.string a.2), .v (.string b2), .v (.string ⟨#[]⟩), .v (.string ⟨#[]⟩), .v (.string ⟨#[]⟩), .v (.bool false), .v (.int .i64 0), .v (.int .i64 0), .own 69 z.2.2.1, .v (.slice none 0 0)]),(69, .row z.2.2.1 aF 1 (z.2.2.2.map enc))]) (fun z=> z.1) (500,s2, .slice none 0 0, []) [0,5,69] (fun _=> rfl) (by decide) (by decide) ⟨e,by simp⟩ ?_ ?_ ?_
  ·simp
  ·simp[isNilRow]
   exact .nilown 69
  clear e
  rintro⟨k,s1,v,l⟩ ⟨e,hlen⟩
  simp only at e hlen
  obtain _ | k:=k
  ·exact QL hf (by rw[e,jS];rfl)
  rw[jS,aS] at e
  simp[h1,h2, -Bool.forall_bool, -Bool.exists_bool]
  refine pB hf e fun w e=> ⟨fun hw=> ?_,fun hw=> ?_⟩
  ·rw[if_pos hw,aS] at e
   refine pB hf e fun r2 e=> ?_
   exact⟨by omega,by omega,fun v'=> ⟨k,r2.1,v',l++ [r2.2],⟨e,by simp;omega⟩,⟨.inl (.inl ⟨rfl,rfl,rfl,rfl,rfl⟩), .inl (.inl rfl), .inl (.inl (by simp))⟩,by omega⟩⟩
  ·rw[if_neg (by simp[hw]),Option.bind_some] at e
   refine⟨w.1,⟨i,a.2,b2,E0,E0,E0,false,0,0,l, []⟩,e, .inl (.inl ⟨rfl,rfl,rfl,rfl,rfl⟩), .inl ⟨rfl,rfl,rfl,rfl,rfl,rfl,rfl,rfl,rfl,th aF (by simp[Ny]),?_⟩⟩
   simp
 ·rintro⟨s9,g⟩ e
  simp only at e
  simp[h2]
  refine pM hf e fun z e=> ?_
  exact jY z.1 g (by simp) (by simp) e
end Go.Gv

namespace Go.Gv
def kR (k:Int):Int:=if k=0 then 101 else if k=1 then 120 else if k=2 then 110 else if k=3 then 100 else if k=4 then 115 else 111
def Uo (x:Tz):Dy:=⟨kR x.kind,x.text,x.pos⟩
def FI:Nat→B→Nat→List Dy
 | 0,_,_=> []
 | k+1,s,i=> Uo (cT s i).1::if(cT s i).1.kind < 2 then[] else FI k s (cT s i).2.toNat
def uK (s:B) (i:Nat):List Dy:=FI (s.size -i+1) s i
theorem nh {s:B} {i:Nat} (h:i≤s.size):i≤bV s i∧bV s i≤s.size:=by
 have:=qb Tu h
 unfold o5 at this
 rw[Gf] at this
 exact this
theorem Wu {s:B} {i:Nat} (h:i≤s.size):i≤oU s i∧oU s i≤s.size:=by
 have:=qb pP h
 unfold o5 at this
 rw[AB] at this
 exact this
theorem Ng {s:B} {i:Nat} (h:i≤s.size):i≤om s i∧om s i≤s.size:=by
 have:=qb EA h
 unfold o5 at this
 rw[EX] at this
 exact this
theorem xo {s:B} {i:Nat} (h:i < s.size):om s i=if Lt s i then om s (i+1) else i:=by
 unfold om
 rw[show s.size -i=(s.size - (i+1)) +1 by omega,Py]
theorem Cn: ∀ (n:Nat) (s:B) (j:Nat) (v:B) (r:Nat×B),kI n s j v=some r→j≤r.1∧r.1 < s.size
 | 0,_,_,_,_,h=> by cases h
 | n+1,s,j,v,r,h=> by
   rw[kI] at h
   split at h
   ·cases h
   ·rename_i c hc
    have hj:j < s.size:=(Array.getElem?_eq_some_iff.1 hc).1
    split at h
    ·split at h
     ·split at h
      ·have:=Cn n s _ _ r h;omega
      ·cases h;exact⟨Nat.le_refl _,hj⟩
     ·cases h;exact⟨Nat.le_refl _,hj⟩
    ·have:=Cn n s _ _ r h;omega
theorem FS: ∀x∈signsL,1≤x.size∧x.size≤2:=by decide
theorem ot {s:B} {i:Nat} (h:i≤s.size):0≤(cT s i).1.kind∧(cT s i).1.kind≤5∧0≤(cT s i).2∧(cT s i).2≤s.size∧(2≤(cT s i).1.kind→(bV s i:Int) < (cT s i).2):=by
 have h0:=nh h
 unfold cT
 simp only
 split
 ·exact⟨by simp,by simp,by simp,by simp;omega,by simp⟩
 ·rename_i c hc
  have hj:bV s i < s.size:=(Array.getElem?_eq_some_iff.1 hc).1
  split
  ·rename_i hl
   have h1:=Ng (s:=s) (i:=bV s i+1) (by omega)
   rw[xo hj]
   have:Lt s (bV s i)=true:=by
    unfold Lt
    rw[hc]
    have h2:A6 c.toNat=true:=by
     unfold CQ tr at hl
     unfold A6
     simp at hl ⊢
     omega
    simp[h2]
   rw[if_pos this]
   simp only
   omega
  ·split
   ·rename_i hd
    have h1:=Wu (s:=s) (i:=bV s i+1) (by omega)
    rw[Dr hj]
    have:PJ s (bV s i)=true:=by
     unfold PJ
     rw[hc]
     unfold pP at hd
     simp at hd ⊢
     omega
    rw[if_pos this]
    simp only
    omega
   ·split
    ·split
     ·simp only;omega
     ·rename_i hq
      unfold AI at hq ⊢
      cases hg:nA s (bV s i+1) ⟨#[]⟩ with
      | none=> rw[hg] at hq;simp at hq
      | some r=>
        have:=Cn _ _ _ _ _ hg
        simp only
        omega
    ·split
     ·rename_i x hx
      have h1:=List.find?_some hx
      have h2:=List.mem_of_find?_eq_some hx
      have h3:=FS x h2
      unfold iH at h1
      simp at h1
      simp only
      omega
     ·simp only;omega
theorem FH: ∀ (a b:Nat) (s:B) (i:Nat),i≤s.size→s.size -i+1≤a→s.size -i+1≤b→FI a s i=FI b s i
 | a+1,b+1,s,i,h,ha,hb=> by
   rw[FI,FI]
   split
   ·rfl
   ·rename_i hk
    have hr:=ot h
    have:=hr.2.2.2.2 (by omega)
    have h0:=nh h
    rw[FH a b s _ (by omega) (by omega) (by omega)]
 | 0,_,_,_,_,h,_=> by omega
 | _+1,0,_,_,_,_,h=> by omega
theorem sJ {s:B} {i:Nat} (h:i≤s.size):uK s i=Uo (cT s i).1::if(cT s i).1.kind < 2 then[] else uK s (cT s i).2.toNat:=by
 unfold uK
 rw[FI]
 split
 ·rfl
 ·rename_i hk
  have hr:=ot h
  have:=hr.2.2.2.2 (by omega)
  have h0:=nh h
  rw[FH (s.size -i) _ s _ (by omega) (by omega) (Nat.le_refl _)]
theorem Jj: ∀ (n:Nat) (s:B) (i:Nat),i≤s.size→s.size -i≤n→(uK s i).length≤n+1
 | 0,s,i,h,hn=> by
   have h0:=nh h
   rw[sJ h]
   have hr:=ot h
   split
   ·simp
   ·have:=hr.2.2.2.2 (by omega)
    omega
 | n+1,s,i,h,hn=> by
   have h0:=nh h
   rw[sJ h]
   have hr:=ot h
   split
   ·simp
   ·have:=hr.2.2.2.2 (by omega)
    have:=Jj n s (cT s i).2.toNat (by omega) (by omega)
    simp
    omega
theorem Un {s:B} {i:Nat} (h:bV s i < s.size):match RY s (bV s i) with
 | none=> (cT s i).1=⟨1,E0,bV s i⟩
 | some r=> 2≤(cT s i).1.kind∧r.2=Uo (cT s i).1∧(r.1:Int)=(cT s i).2:=by
 obtain⟨c,hc⟩: ∃c,s.data[bV s i]?=some c:=⟨_,Array.getElem?_eq_getElem h⟩
 have e1:CQ ⟨c.toNat⟩=A6 c.toNat:=by unfold CQ tr A6;rw[Bool.eq_iff_iff];simp;omega
 have e2:pP ⟨c.toNat⟩=decide (48≤c.toNat∧c.toNat≤57):=by unfold pP;rw[Bool.eq_iff_iff];simp;omega
 unfold RY cT
 simp only[hc,e1,e2]
 by_cases h1:A6 c.toNat=true
 ·simp[h1,Uo,kR]
 ·by_cases h2:48≤c.toNat∧c.toNat≤57
  ·simp[h1,h2,Uo,kR]
  ·by_cases h3:c.toNat=34
   ·simp only[if_neg h1,if_neg h2,if_pos h3,decide_eq_false h2,Bool.false_eq_true,if_false]
    unfold AI
    cases hq:nA s (bV s i+1) ⟨#[]⟩ with
    | none=> simp[hq]
    | some r=>
      simp only[hq]
      have: ¬ ((r.1:Int) +1 < 0):=by omega
      simp[Uo,kR,this]
   ·simp only[if_neg h1,if_neg h2,if_neg h3,decide_eq_false h2,Bool.false_eq_true,if_false]
    cases hx:signsL.find? (iH s (bV s i)) with
    | none=> simp[hx]
    | some x=>
      have h1:=List.find?_some hx
      unfold iH at h1
      simp at h1
      simp[hx,Uo,kR,h1.2]
theorem MR: ∀ (k:Nat) (s:B) (i:Nat) (out:List Dy),i≤s.size→s.size -i < k→yQ k s i out=some (out++uK s i)
 | 0,s,i,out,h,hk=> by omega
 | k+1,s,i,out,h,hk=> by
   have h0:=nh h
   rw[yQ,sJ h]
   split
   ·rename_i he
    have hn:s.data[bV s i]?=none:=Array.getElem?_eq_none (by show s.size≤_;omega)
    have:cT s i=((⟨0,E0,(bV s i:Nat)⟩:Tz),((bV s i:Nat):Int)):=by unfold cT;simp only[hn]
    rw[this]
    simp[Uo,kR,he]
   ·rename_i he
    have hg:=Un (s:=s) (i:=i) (by omega)
    have hr:=ot h
    split
    ·rename_i hn
     rw[hn] at hg
     simp only at hg
     rw[hg]
     simp[Uo,kR]
    ·rename_i r hs
     rw[hs] at hg
     obtain⟨g1,g2,g3⟩:=hg
     have g4:=hr.2.2.2.2 g1
     have g5:bV s i < r.1:=by omega
     rw[if_pos ⟨by omega,g5⟩,MR k s r.1 _ (by omega) (by omega),if_neg (by omega),g2,List.append_assoc,List.singleton_append,show(cT s i).2.toNat=r.1 by omega]
theorem MS (s:B):FT s=some (uK s 0):=by
 unfold FT
 rw[MR _ s 0 [] (Nat.zero_le _) (by omega)]
 rfl
end Go.Gv

namespace Go.Gv
structure Rel (d:Int) (s:Rdr) (p:Pst):Prop where
 e:p.e=0
 deep:p.deep=d
 pos:0≤p.pos
 len:p.l.length≤1000000
 size:s.txt.size≤400
 kind:0≤s.kind∧s.kind≤5
 fin:0≤s.fin∧s.fin≤s.txt.size
 dig:s.kind=3→qH s.text=true
 nam:s.kind=2→s.text≠E0
 at_:p.l.drop p.pos.toNat=⟨kR s.kind,s.text,s.pos⟩::if s.kind < 2 then[] else uK s.txt s.fin.toNat
def rem (s:Rdr):Int:=if s.kind < 2 then 0 else 1+ (s.txt.size -s.fin)
structure Dd (p:Pst):Prop where
 e:p.e≠0
 now: ∃t,ub p=some t
structure Dead (f:Int×Int) (d:Int) (p:Pst):Prop where
 e:p.e=f.2
 fail:p.fail=f.1
 ne:f.2≠0
 deep:p.deep=d
 now: ∃t,ub p=some t
theorem Dead.dd {f:Int×Int} {d:Int} {p:Pst} (h:Dead f d p):Dd p:=⟨by rw[h.e];exact h.ne,h.now⟩
def DD {Y:Type} (p:Pst) (G:Option (Pst×Y)):Prop:= ∃y,G=some (p,y)
def Sim {Y:Type} (d m:Int) (E:Out (Rdr×Y)) (G:Option (Pst×Y)):Prop:=match E with
 | .ok r=> ∃p,G=some (p,r.2)∧Rel d r.1 p∧rem r.1≤m
 | .err f=> ∃p y,G=some (p,y)∧Dead f d p
 | .no=> False
section
variable {Y Z:Type} {d m:Int} {s:Rdr} {p:Pst}
theorem DD.bind {G:Option (Pst×Y)} {h:Pst×Y→Option (Pst×Z)} (h1:DD p G) (h2: ∀y,DD p (h (p,y))):DD p (G.bind h):=by
 obtain⟨y,rfl⟩:=h1
 exact h2 y
theorem DD.some {y:Y} :DD p (some (p,y)):=⟨y,rfl⟩
theorem bI {y:Y} (h:Rel d s p) (hm:rem s≤m):Sim d m (.ok (s,y)) (some (p,y)):=⟨p,rfl,h,hm⟩
theorem oc {f:Int×Int} {G:Option (Pst×Y)} (h:Dead f d p) (hd:DD p G):Sim d m (.err f) G:=by
 obtain⟨y,rfl⟩:=hd
 exact⟨p,y,rfl,h⟩
theorem Sim.mono {m':Int} {E:Out (Rdr×Y)} {G:Option (Pst×Y)} (h:Sim d m E G) (hm:m≤m'):Sim d m' E G:=by
 cases E with
 | ok r=> obtain⟨p,h1,h2,h3⟩:=h;exact⟨p,h1,h2,by omega⟩
 | err f=> exact h
 | no=> exact h
theorem Sim.bind {m1:Int} {E:Out (Rdr×Y)} {G:Option (Pst×Y)} {k:Rdr×Y→Out (Rdr×Z)} {h:Pst×Y→Option (Pst×Z)} (h1:Sim d m1 E G)
 (h2: ∀s' p' y,Rel d s' p'→rem s'≤m1→Sim d m (k (s',y)) (h (p',y))) (h3: ∀p' y,Dd p'→DD p' (h (p',y))):Sim d m (E.bind k) (G.bind h):=by
 cases E with
 | ok r=>
   obtain⟨p',rfl,hr,hm⟩:=h1
   exact h2 r.1 p' r.2 hr hm
 | err f=>
   obtain⟨p',y,rfl,hr⟩:=h1
   obtain⟨y',h4⟩:=h3 p' y hr.dd
   exact⟨p',y',h4,hr⟩
 | no=> exact h1.elim
theorem Rel.now (h:Rel d s p):ub p=some ⟨kR s.kind,s.text,s.pos⟩:=by
 unfold ub
 rw[if_pos ⟨h.pos,h.len⟩]
 have:=congrArg (fun l=> l[0]?) h.at_
 simpa using this
theorem Rel.dead (h:Rel d s p) (e a:Int) (he:e≠0):Dead (a,e) d (vp p e a):=by
 unfold vp
 rw[if_pos h.e]
 exact⟨rfl,rfl,he,h.deep,⟨_,h.now⟩⟩
theorem ov {k:Int} (h:0≤k∧k≤5): (kR k=101↔k=0)∧(kR k=120↔k=1)∧(kR k=110↔k=2)∧(kR k=100↔k=3)∧(kR k=115↔k=4)∧(kR k=111↔k=5):=by
 unfold kR
 repeat' split
 all_goals omega
theorem Gg (q:U8→Bool): ∀ (n:Nat) (s:B) (i j:Nat),i≤j→j < r7 q n s i→ ∃c,s.data[j]?=some c∧q ⟨c.toNat⟩=true
 | 0,s,i,j,h1,h2=> by rw[r7] at h2;omega
 | n+1,s,i,j,h1,h2=> by
   rw[r7] at h2
   split at h2
   ·rename_i c hc
    split at h2
    ·rename_i hq
     by_cases e:i=j
     ·subst e;exact⟨c,hc,hq⟩
     ·exact Gg q n s (i+1) j (by omega) h2
    ·omega
   ·omega
theorem Nm {s:B} {i:Nat} (h: (cT s i).1.kind=3):qH (cT s i).1.text=true:=by
 unfold cT at h ⊢
 try simp only at h
 try simp only
 split at h
 ·simp at h
 ·rename_i c hc
  split at h
  ·simp at h
  ·rename_i h1
   split at h
   ·rename_i h2
    simp only[hc,if_neg h1,if_pos h2]
    unfold qH
    rw[List.all_eq_true]
    intro x hx
    obtain⟨k,hk,rfl⟩:=List.mem_iff_getElem.1 hx
    have e: (s.extract (bV s i) (oU s (bV s i))).data.toList[k]?=some ((s.extract (bV s i) (oU s (bV s i))).data.toList[k]):=List.getElem?_eq_getElem hk
    generalize (s.extract (bV s i) (oU s (bV s i))).data.toList[k]=x at e
    rw[Array.getElem?_toList,ByteArray.data_extract,Array.getElem?_extract] at e
    split at e
    ·rename_i hlt
     have hd:oU s (bV s i)=r7 pP (s.size -bV s i) s (bV s i):=by rw[AB];rfl
     obtain⟨c',hc',hp⟩:=Gg pP (s.size -bV s i) s (bV s i) (bV s i+k) (by omega) (by rw[←hd];omega)
     rw[hc'] at e
     cases e
     unfold pP at hp
     simp at hp ⊢
     omega
    ·cases e
   ·split at h
    ·split at h
     ·simp at h
     ·simp at h
    ·split at h
     ·simp at h
     ·simp at h
theorem Nl {s:B} {i:Nat} (h: (cT s i).1.kind=2): (cT s i).1.text≠E0:=by
 unfold cT at h ⊢
 try simp only at h
 try simp only
 split at h
 ·simp at h
 ·rename_i c hc
  have hj:bV s i < s.size:=(Array.getElem?_eq_some_iff.1 hc).1
  split at h
  ·rename_i hl
   simp only[hc,hl,if_true]
   have h1:=Ng (s:=s) (i:=bV s i+1) (by omega)
   have h2:om s (bV s i)=om s (bV s i+1):=by
    rw[xo hj,if_pos]
    unfold Lt
    rw[hc]
    have h2:A6 c.toNat=true:=by
     unfold CQ tr at hl
     unfold A6
     simp at hl ⊢
     omega
    simp[h2]
   intro e
   have:=congrArg ByteArray.size e
   rw[ByteArray.size_extract,h2] at this
   have e0:E0.size=0:=rfl
   omega
  ·split at h
   ·simp at h
   ·split at h
    ·split at h
     ·simp at h
     ·simp at h
    ·split at h
     ·simp at h
     ·simp at h
theorem Rel.next (h:Rel d s p) (hk:2≤s.kind): ∃s',yy s=some s'∧Rel d s' p.step∧rem s' < rem s:=by
 have hf:=h.fin
 have hz:=h.size
 have hr:=ot (s:=s.txt) (i:=s.fin.toNat) (by omega)
 refine⟨⟨s.txt,(cT s.txt s.fin.toNat).2,(cT s.txt s.fin.toNat).1.kind,(cT s.txt s.fin.toNat).1.text,(cT s.txt s.fin.toNat).1.pos⟩,by rw[yy,if_pos ⟨hf,by omega⟩],⟨h.e,h.deep,?_,h.len,hz,⟨hr.1,hr.2.1⟩,⟨hr.2.2.1,hr.2.2.2.1⟩,Nm,Nl,?_⟩,?_⟩
 ·have:=h.pos
  show 0≤p.pos+1
  omega
 ·have h1:=h.at_
  rw[if_neg (by omega)] at h1
  have h2:=congrArg (List.drop 1) h1
  rw[List.drop_drop,List.drop_succ_cons,List.drop_zero,sJ (by omega)] at h2
  have hp:=h.pos
  show p.l.drop (p.pos+1).toNat=_
  rw[show(p.pos+1).toNat=p.pos.toNat+1 by omega,h2]
  rfl
 ·have h0:=nh (s:=s.txt) (i:=s.fin.toNat) (by omega)
  unfold rem
  rw[if_neg (show ¬s.kind < 2 by omega)]
  simp only
  split
  ·omega
  ·have:=hr.2.2.2.2 (by omega)
   omega
theorem Rel.rem0 (h:Rel d s p):0≤rem s∧rem s≤401:=by
 have:=h.fin
 have:=h.size
 unfold rem
 split <;> omega
theorem vH (h:Rel d s p) (t:B):DV p 111 t=some (cO s t):=by
 rw[DV,if_neg (by simp[h.e]),h.now,Option.map_some,cO]
 congr 1
 rw[Bool.eq_iff_iff]
 have:=(ov h.kind).2.2.2.2.2
 simp[this]
theorem bm {t:B} {k:Rdr×Bool→Out (Rdr×Y)} {g:Pst×Bool→Option (Pst×Y)} (h:Rel d s p) (h1:cO s t=true→ ∀s',Rel d s' p.step→rem s' < rem s→Sim d m (k (s',true)) (g (p.step,true)))
 (h2:cO s t=false→Sim d m (k (s,false)) (g (p,false))):Sim d m ((cG s t).bind k) ((fT p t).bind g):=by
 have hs:=vH h t
 unfold cG pF fT
 rw[hs]
 cases hb:cO s t with
 | true=>
   obtain⟨s',e1,e2,e3⟩:=h.next (by unfold cO at hb;simp at hb;omega)
   simp[e1]
   exact h1 hb s' e2 e3
 | false=> exact h2 hb
theorem ou (h:Rel d s p) (k:Int):jV p k=some (decide (kR s.kind=k)):=by
 rw[jV,if_neg (by simp[h.e]),h.now]
 rfl
theorem FQ {n:Int} {E:Out (Rdr×Y)} {g:Bool→Option (Pst×Y)} (h:Rel d s p) (h1:kR s.kind=n→Sim d m E (g true)) (h2:kR s.kind≠n→Sim d m E (g false)):Sim d m E ((jV p n).bind g):=by
 rw[ou h,Option.bind_some]
 by_cases e:kR s.kind=n
 ·rw[decide_eq_true e];exact h1 e
 ·rw[decide_eq_false e];exact h2 e
theorem ES (h:Rel d s p) {k:Int} {t:B} (hk:kR s.kind≠k∨k=111∧s.text≠t):bv p k t=some (vp p 3 s.pos,E0):=by
 rw[bv,h.now,Option.bind_some,if_neg (by simp[h.e]),if_pos hk]
theorem Fh (h:Rel d s p) {k:Int} {t:B} (hk: ¬ (kR s.kind≠k∨k=111∧s.text≠t)):bv p k t=some (p.step,s.text):=by
 rw[bv,h.now,Option.bind_some,if_neg (by simp[h.e]),if_neg hk]
theorem br {t:B} {k:Rdr→Out (Rdr×Y)} {g:Pst×B→Option (Pst×Y)} (h:Rel d s p) (h1: ∀s' y,Rel d s' p.step→rem s' < rem s→Sim d m (k s') (g (p.step,y)))
 (h2: ∀p',Dd p'→ ∀y,DD p' (g (p',y))):Sim d m ((d4 s [t]).bind k) ((bv p 111 t).bind g):=by
 have hk:=(ov h.kind).2.2.2.2.2
 cases hb:cO s t with
 | true=>
   have hb':s.kind=5∧s.text=t:=by unfold cO at hb;simpa using hb
   obtain⟨s',e1,e2,e3⟩:=h.next (by omega)
   rw[Fh h (by rw[not_or];exact⟨fun h=> h (hk.2 hb'.1),fun h=> h.2 hb'.2⟩)]
   simp[d4,hb,fV,e1]
   exact h1 s' _ e2 e3
 | false=>
   have hb': ¬ (s.kind=5∧s.text=t):=by
    intro hh
    unfold cO at hb
    simp[hh.1,hh.2] at hb
   rw[ES h (by
    by_cases e:s.kind=5
    ·exact .inr ⟨rfl,fun e2=> hb' ⟨e,e2⟩⟩
    ·exact .inl (by rw[Ne,hk];exact e))]
   simp[d4,hb]
   have hd:=h.dead 3 s.pos (by decide)
   exact oc hd (h2 _ hd.dd _)
theorem Jo {n c:Int} {k:Rdr×B→Out (Rdr×Y)} {g:Pst×B→Option (Pst×Y)} (h:Rel d s p) (hn:kR n=c∧2≤n∧n≤4) (h1:s.kind=n→ ∀s',Rel d s' p.step→rem s' < rem s→Sim d m (k (s',s.text)) (g (p.step,s.text)))
 (h2: ∀p',Dd p'→DD p' (g (p',E0))):Sim d m ((dY s n).bind k) ((bv p c E0).bind g):=by
 obtain⟨rfl,hn⟩:=hn
 have hk:=ov h.kind
 have hk':=ov (k:=n) (by omega)
 have hinj:kR s.kind=kR n↔s.kind=n:=by
  unfold kR
  have:=h.kind
  repeat' split
  all_goals omega
 have hne:kR n≠111:=by rw[Ne,hk'.2.2.2.2.2];omega
 by_cases e:s.kind=n
 ·obtain⟨s',e1,e2,e3⟩:=h.next (by omega)
  rw[Fh h (by rw[not_or];exact⟨fun h=> h (hinj.2 e),fun h=> hne h.1⟩)]
  simp[dY,e,fV,e1]
  exact h1 e s' e2 e3
 ·rw[ES h (.inl (by rw[Ne,hinj];exact e))]
  simp[dY,e]
  have hd:=h.dead 3 s.pos (by decide)
  exact oc hd (h2 _ hd.dd)
theorem cH {n c:Int} {k:Rdr×B→Out (Rdr×Y)} {g:Pst×B→Option (Pst×Y)} (h:Rel d s p) (hn:kR n=c∧2≤n∧n≤4) (h1:s.kind=n→ ∀s',Rel d s' p.step→rem s' < rem s→Sim d m (k (s',s.text)) (g (p.step,s.text)))
 (h2: ∀p',Dd p'→ ∀y,DD p' (g (p',y))):Sim d m ((dY s n).bind k) ((bv p c E0).bind g):=Jo h hn h1 fun p' hd=> h2 p' hd _
theorem mO {t:B} (h:Dd p):DD p (fT p t):=⟨false,by rw[fT,DV,if_pos h.e];rfl⟩
theorem cr {t:B} {g:Pst×Bool→Option (Pst×Y)} (h:Dd p) (h1:DD p (g (p,false))):DD p ((fT p t).bind g):=by
 rw[fT,DV,if_pos h.e]
 exact h1
theorem aV {k:Int} {t:B} (h:Dd p):DD p (bv p k t):=by
 obtain⟨x,hx⟩:=h.now
 exact⟨E0,by rw[bv,hx,Option.bind_some,if_pos h.e]⟩
theorem qI {k:Int} {t:B} {g:Bool→Option (Pst×Y)} (h:Dd p) (h1:DD p (g false)):DD p ((DV p k t).bind g):=by
 rw[DV,if_pos h.e]
 exact h1
theorem eK {k:Int} {g:Bool→Option (Pst×Y)} (h:Dd p) (h1:DD p (g false)):DD p ((jV p k).bind g):=by
 rw[jV,if_pos h.e]
 exact h1
theorem ek {l a:Int} (h:Dd p):DD p (gg p l a):=by
 obtain⟨x,hx⟩:=h.now
 unfold gg
 rw[bv,hx,Option.bind_some,if_pos h.e,Option.bind_some,if_pos (show qH E0=true from rfl)]
 have e: (if l < E0.data.toList.foldl ej 0 then vp p 8 a else p)=p:=by
  split
  ·rw[vp,if_neg h.e]
  ·rfl
 exact⟨E0.data.toList.foldl ej 0,congrArg (fun x=> some (x,E0.data.toList.foldl ej 0)) e⟩
end
end Go.Gv
