/- A part of the framework and of the walks: W89 C11 W90 W91 W92 W93 Asm6. -/
import Derived.Test.YtaiffcbkmgfklaaGreatDoorGu20
import Derived.Test.YtaiffcbkmgfklaaGreatDoorGu10
import Derived.Test.YtaiffcbkmgfklaaGreatDoorGu19
import Derived.Test.YtaiffcbkmgfklaaGreatDoorGu17
set_option linter.unusedSimpArgs false
set_option linter.unusedVariables false
set_option maxRecDepth 100000
set_option maxHeartbeats 1000000

namespace Go.Gv
open Cod (enc dec)
variable {S S0:Nat→Spc} {f:Int×Int}
theorem Hx {H:ab} {o mn mx:Int} {a b n g v:B} {fo:Bool} {da dk:D} (al:List B) (ks:List Glob) (ha:FrzTo H da (enc al)) (hd:FrzTo H dk (enc ks)):
 FrzTo H (.agg [.v (.int .i64 o), .v (.string a), .v (.string b), .v (.string n), .v (.string g), .v (.string v), .v (.bool fo), .v (.int .i64 mn), .v (.int .i64 mx),da,dk]) (enc (⟨o,a,b,n,g,v,fo,mn,mx,al,ks⟩:Glob)):=by
 rw[Bu]
 refine .agg rfl fun k x y hx hy=> ?_
 rcases k with _ | _ | _ | _ | _ | _ | _ | _ | _ | _ | _ | k
 all_goals first
  | (cases hx;cases hy;exact .same _)
  | (cases hx;cases hy;exact ha)
  | (cases hx;cases hy;exact hd)
  | simp at hx
theorem Hz {b:Nat} {post:Rdr→Glob→Prop} {H:ab} {o mn mx:Int} {a b' n g v:B} {fo:Bool} {da dk:D} (s:Rdr) (al:List B) (ks:List Glob) (ha:FrzTo (fun i=> if i=0 then none else H i) da (enc al)) (hd:FrzTo (fun i=> if i=0 then none else H i) dk (enc ks))
 (h0:H 0=some (.box b (cW s))) (hq:post s ⟨o,a,b',n,g,v,fo,mn,mx,al,ks⟩):
 BI enc b post (.agg [.v (.int .i64 o), .v (.string a), .v (.string b'), .v (.string n), .v (.string g), .v (.string v), .v (.bool fo), .v (.int .i64 mn), .v (.int .i64 mx),da,dk]) H:=gT s _ (Hx al ks ha hd) h0 hq
abbrev s_globs:Spc:=dG (a2 Int (List Glob)) (fun _=> True) (enc (X:=Glob)) fun x y=> y=SO x.1 x.2
theorem VT {op:Int} {l:List Glob} (h:l.length≠1):SO op l=⟨op,E0,E0,E0,E0,E0,false,0,0, [],l⟩:=by
 match l,h with
 | [],_=> rfl
 | [x],h=> exact absurd rfl h
 | x::y::l,_=> rfl
theorem XM:Walk qS qm S (a2 Int (List Glob)) (fun _=> True) (enc (X:=Glob)) fun x y=> y=SO x.1 x.2:=by
 rintro⟨op,l⟩ -
 simp[qS,qm]
 refine fun b _=> ⟨fun h=> ⟨by omega,fun a ha=> ?_⟩,fun h=> ?_⟩
 ·have e:l= [a]:=by
   match l,h,ha with
   | [x],_,ha=> simp at ha;rw[ha]
  exact fK a (by simp) (by rw[e];rfl)
 ·exact fK (⟨op,E0,E0,E0,E0,E0,false,0,0, [],l⟩:Glob) (Hx [] l (.nil _) (by simp)) (VT (by omega)).symm
abbrev s_function:Spc:=dG (a1 B) (fun _=> True) (enc (X:=Int)) fun x y=> y=sm x
theorem BO:Walk mZ mw S (a1 B) (fun _=> True) (enc (X:=Int)) fun x y=> y=sm x:=by
 rintro x -
 simp[mZ,mw]
 refine⟨fun h=> by subst h;rfl,fun n1=> ⟨fun h=> by subst h;rfl,fun n2=> ⟨fun h=> by subst h;rfl,fun n3=> ⟨fun h=> by subst h;rfl,fun n4=> ⟨fun h=> by subst h;rfl,fun n5=> ⟨fun h=> by subst h;rfl,fun n6=> ⟨fun h=> by subst h;rfl,fun n7=> ⟨fun h=> by subst h;rfl,fun n8=> ?_⟩⟩⟩⟩⟩⟩⟩⟩
 have g: ∀ {y:B},¬x=y→ ¬y=x:=fun h e=> h e.symm
 simp[sm,funcsL,List.find?,g n1,g n2,g n3,g n4,g n5,g n6,g n7,g n8]
@[simp] abbrev Rv (N:Rdr→Out (Rdr×Glob)) (s:Rdr) (_:Unit):Out (Rdr×Glob):=N s
abbrev tN (f:Int×Int) (N:Rdr→Out (Rdr×Glob)):Spc:=AE a0 (enc (X:=Glob)) f (Rv N)
@[simp] abbrev Rw (N:Rdr→Out (Rdr×Glob)) (s:Rdr) (_:Unit):Out (Rdr×Glob):=gandE N s
abbrev KY (f:Int×Int) (N:Rdr→Out (Rdr×Glob)):Spc:=AE a0 (enc (X:=Glob)) f (Rw N)
@[simp] abbrev Xt (N:Rdr→Out (Rdr×Glob)) (s:Rdr) (_:Unit):Out (Rdr×Glob):=gorE N s
abbrev F5 (f:Int×Int) (N:Rdr→Out (Rdr×Glob)):Spc:=AE a0 (enc (X:=Glob)) f (Xt N)
@[simp] abbrev Ox (s:Rdr) (_:Unit):Out (Rdr×Glob):=gatomsE s
abbrev F6 (f:Int×Int):Spc:=AE a0 (enc (X:=Glob)) f Ox
theorem TW (N:Rdr→Out (Rdr×Glob)) (h1:S ae=bN) (h2:S bw=tN f N) (h3:S fp=s_globs):
 fj jz i6 S a0 (enc (X:=Glob)) f (Rw N):=by
 rintro b s ⟨⟩ hf
 have hf: (gandE N s).fine f:=hf
 have e:=gandE.eq_1 N s
 simp[jz,i6,h1,h2,h3, -Bool.forall_bool, -Bool.exists_bool]
 intro b2
 refine kJ hf e fun r e=> ?_
 intro v0
 refine cy (X:=Nat×Rdr×Value×List Glob) [0,2] [2] (fun z=> gandE N s=((nH N z.1 z.2.1 z.2.2.2).map fun q=> (q.1,SO 12 q.2))∧z.2.2.2.length+z.1≤501) (fun z=> [(3, .own 6 z.2.2.1)]) (fun z=> [(0, .box b (cW z.2.1)),(6, .row z.2.2.1 aq 11 (z.2.2.2.map enc))]) (fun z=> z.1) (500,r.1,v0, [r.2]) ⟨e,by simp⟩ (by simp) (by simp) ?_
 clear e
 rintro⟨k,s1,v,l⟩ ⟨e,hlen⟩
 simp only at e hlen
 obtain _ | k:=k
 ·rw[e,nH] at hf;exact hf.elim
 rw[nH,Out.bind_map] at e
 simp[h1]
 refine oj hf e fun w e=> ?_
 simp[-Bool.forall_bool, -Bool.exists_bool,h2,h3]
 refine⟨fun hw=> ?_,fun hw=> ?_⟩
 ·rw[if_pos hw,Out.bind_map] at e
  exact kJ hf e fun r2 e=> ⟨by omega,by omega,fun v'=> ⟨k,r2.1,v',l++ [r2.2],⟨e,by simp;omega⟩,⟨rfl, .inl ⟨rfl,rfl,rfl,rfl,rfl⟩, .inl ⟨rfl,by simp⟩⟩,by omega⟩⟩
 ·rw[if_neg (by simp[hw]),Out.map_ok] at e
  exact gT w.1 (SO 12 l) (by simp) (by simp) e
theorem XW (N:Rdr→Out (Rdr×Glob)) (h1:S ae=bN) (h2:S dV=KY f N) (h3:S fp=s_globs):
 fj kC ki S a0 (enc (X:=Glob)) f (Xt N):=by
 rintro b s ⟨⟩ hf
 have hf: (gorE N s).fine f:=hf
 have e:=gorE.eq_1 N s
 simp[kC,ki,h1,h2,h3, -Bool.forall_bool, -Bool.exists_bool]
 intro b2
 refine kJ hf e fun r e=> ?_
 intro v0
 refine cy (X:=Nat×Rdr×Value×List Glob) [0,2] [2] (fun z=> gorE N s=((qA N z.1 z.2.1 z.2.2.2).map fun q=> (q.1,SO 13 q.2))∧z.2.2.2.length+z.1≤501) (fun z=> [(3, .own 6 z.2.2.1)]) (fun z=> [(0, .box b (cW z.2.1)),(6, .row z.2.2.1 aq 11 (z.2.2.2.map enc))]) (fun z=> z.1) (500,r.1,v0, [r.2]) ⟨e,by simp⟩ (by simp) (by simp) ?_
 clear e
 rintro⟨k,s1,v,l⟩ ⟨e,hlen⟩
 simp only at e hlen
 obtain _ | k:=k
 ·rw[e,qA] at hf;exact hf.elim
 rw[qA,Out.bind_map] at e
 simp[h1]
 refine oj hf e fun w e=> ?_
 simp[-Bool.forall_bool, -Bool.exists_bool,h2,h3]
 refine⟨fun hw=> ?_,fun hw=> ?_⟩
 ·rw[if_pos hw,Out.bind_map] at e
  exact kJ hf e fun r2 e=> ⟨by omega,by omega,fun v'=> ⟨k,r2.1,v',l++ [r2.2],⟨e,by simp;omega⟩,⟨rfl, .inl ⟨rfl,rfl,rfl,rfl,rfl⟩, .inl ⟨rfl,by simp⟩⟩,by omega⟩⟩
 ·rw[if_neg (by simp[hw]),Out.map_ok] at e
  exact gT w.1 (SO 13 l) (by simp) (by simp) e
theorem TV (N:Rdr→Out (Rdr×Glob)) (h1:S ae=bN) (h2:S bw=tN f N) (h3:S ak=eZ f) (h4:S cK=F5 f N) (h5:S eC=F6 f):
 fj jy i5 S a0 (enc (X:=Glob)) f (Rv (gnotE N (gorE N))):=by
 rintro b s ⟨⟩ hf
 have hf: (gnotE N (gorE N) s).fine f:=hf
 have e:=gnotE.eq_1 N (gorE N) s
 simp only[cG,fV,Out.bind_map,Out.map_map,Out.bind_bind,Out.map_bind] at e
 simp[jy,i5,h1,h2,h3,h4,h5, -Bool.forall_bool, -Bool.exists_bool]
 repeat' first
  | refine kJ hf e fun q e=> ?_
  | refine Gr hf e fun q e=> ?_
  | refine oj hf e fun q e=> ?_
  | refine Gs hf e fun q e=> ?_
  | refine Cu hf e fun q e=> ?_
  | ((refine⟨fun hc=> ?_,fun hc=> ?_⟩ <;> first | rw[if_pos hc] at e | rw[if_neg hc] at e | rw[if_neg (by simp[hc])] at e) <;> try simp only[Out.bind_ok,Out.bind_err,Out.map_ok,Out.map_err,Out.bind_map,Out.bind_bind,Out.map_bind,Out.map_map] at e)
  | exact Hz _ [] [] (.nil _) (.nil _) (by simp) e
  | exact Hz _ [] [_] (.nil _) (by simp) (by simp) e
  | exact gT _ _ (by simp) (by simp) e
  | (rw[e] at hf;exact hf)
  | intro _
def aNil:ix (Int×B) where
 dec
  | [.agg [.v (.int .i64 op), .v (.string a), .v (.string b), .v (.string c), .v (.string d), .v (.string e), .v (.bool g), .v (.int .i64 m), .v (.int .i64 n), .v (.slice none 0 0), .v (.slice none 0 0)]]=> if b=E0∧c=E0∧d=E0∧e=E0∧g=false∧m=0∧n=0 then some (op,a) else none
  | _=> none
 view z:= [.agg [.v (.int .i64 z.1), .v (.string z.2), .v (.string E0), .v (.string E0), .v (.string E0), .v (.string E0), .v (.bool false), .v (.int .i64 0), .v (.int .i64 0), .v (.slice none 0 0), .v (.slice none 0 0)]]
 le ds z h:=by
  split at h
  ·split at h
   ·rename_i hh
    obtain⟨rfl,rfl,rfl,rfl,rfl,rfl,rfl⟩:=hh
    cases h
    exact .cons (.same _) .nil
   ·cases h
  ·cases h
@[simp] theorem qdL (op:Int) (a:B):aNil.dec [.agg [.v (.int .i64 op), .v (.string a), .v (.string ⟨#[]⟩), .v (.string ⟨#[]⟩), .v (.string ⟨#[]⟩), .v (.string ⟨#[]⟩), .v (.bool false), .v (.int .i64 0), .v (.int .i64 0), .v (.slice none 0 0), .v (.slice none 0 0)]]=some (op,a):=id rfl
@[simp] theorem qb2 (z:Int×B):aNil.view z= [.agg [.v (.int .i64 z.1), .v (.string z.2), .v (.string ⟨#[]⟩), .v (.string ⟨#[]⟩), .v (.string ⟨#[]⟩), .v (.string ⟨#[]⟩), .v (.bool false), .v (.int .i64 0), .v (.int .i64 0), .v (.slice none 0 0), .v (.slice none 0 0)]]:=id rfl
@[simp] abbrev Ry (s:Rdr) (z:Int×B):Out (Rdr×Glob):=argsE s z.1 z.2
abbrev K0 (f:Int×Int):Spc:=AE aNil (enc (X:=Glob)) f Ry
theorem RP (h1:S ae=bN) (h2:S az=mg f) (h3:S ak=eZ f) (h4:S aJ=jK f) (h5:S bp=tI) (h6:S gP=s_function) (h7:S dj=K0 f):
 fj iL iF S a0 (enc (X:=Glob)) f (Ox):=by
 rintro b s ⟨⟩ hf
 have hf: (gatomsE s).fine f:=hf
 have e:=gatomsE.eq_1 s
 simp only[Hw,cG,fV,Out.bind_map,Out.map_map,Out.bind_bind,Out.map_bind] at e
 simp[iL,iF,h1,h2,h3,h4,h5,h6,h7, -Bool.forall_bool, -Bool.exists_bool]
 repeat' first
  | refine kJ hf e fun q e=> ?_
  | refine Gr hf e fun q e=> ?_
  | refine oj hf e fun q e=> ?_
  | refine Gs hf e fun q e=> ?_
  | refine Cu hf e fun q e=> ?_
  | ((refine⟨fun hc=> ?_,fun hc=> ?_⟩ <;> first | rw[if_pos hc] at e | rw[if_neg hc] at e | rw[if_neg (by simp[hc])] at e) <;> try simp only[Out.bind_ok,Out.bind_err,Out.map_ok,Out.map_err,Out.bind_map,Out.bind_bind,Out.map_bind,Out.map_map] at e)
  | exact Hz _ [] [] (.nil _) (.nil _) (by simp) e
  | exact Hz _ [] [_] (.nil _) (by simp) (by simp) e
  | exact gT _ _ (by simp) (by simp) e
  | (rw[e] at hf;exact hf)
  | intro _
theorem ID (h1:S ae=bN) (h2:S ak=eZ f) (h3:S aJ=jK f) (h4:S dC=F7 f) (h5:S bT=F8 f) (h6:S de=Cg f):
 fj f5 fY S aNil (enc (X:=Glob)) f Ry:=by
 rintro b s ⟨op,a⟩ hf
 have hf: (argsE s op a).fine f:=hf
 have e:=argsE.eq_1 s op a
 simp[f5,fY,h1,h2,h3,h4,h5,h6, -Bool.forall_bool, -Bool.exists_bool]
 intro b3 b4
 refine⟨fun hc=> ?_,fun hc=> ?_⟩
 ·rw[if_pos hc] at e
  exact Hz s [] [] (.nil _) (.nil _) (by simp) e
 rw[if_neg hc] at e
 refine⟨fun hc2=> ?_,fun hc2=> ?_⟩
 ·rw[if_pos hc2] at e
  repeat' first
   | refine kJ hf e fun q e=> ?_
   | refine Gr hf e fun q e=> ?_
   | refine oj hf e fun q e=> ?_
   | refine Gs hf e fun q e=> ?_
   | refine Cu hf e fun q e=> ?_
   | ((refine⟨fun hc=> ?_,fun hc=> ?_⟩ <;> first | rw[if_pos hc] at e | rw[if_neg hc] at e | rw[if_neg (by simp[hc])] at e) <;> try simp only[Out.bind_ok,Out.bind_err,Out.map_ok,Out.map_err,Out.bind_map,Out.bind_bind,Out.map_bind,Out.map_map] at e)
   | exact Hz _ [] [] (.nil _) (.nil _) (by simp) e
   | exact Hz _ [] [_] (.nil _) (by simp) (by simp) e
   | exact gT _ _ (by simp) (by simp) e
   | (rw[e] at hf;exact hf)
   | intro _
 rw[if_neg hc2] at e
 refine kJ hf e fun q e=> ?_
 refine rF (X:=Rdr×Glob) [4] [4] [59] [] (fun z=> argsE s op a= .ok (z.1,z.2)) (fun _=> [(3, .bptr 3 b3 0)]) (fun z=> [(0, .box b (cW z.1)),(3, .box b3 (enc z.2).cells)]) [0,3] (fun _=> rfl) (by decide) ?_ ?_
 ·simp[h1,h2,h3,h4,h5,h6, -Bool.forall_bool, -Bool.exists_bool]
  refine⟨fun g4=> ?_,fun g4=> ?_⟩
  ·rw[if_pos g4] at e
   repeat' first
    | refine kJ hf e fun q e=> ?_
    | refine Gr hf e fun q e=> ?_
    | refine oj hf e fun q e=> ?_
    | refine Gs hf e fun q e=> ?_
    | refine Cu hf e fun q e=> ?_
    | ((refine⟨fun hc=> ?_,fun hc=> ?_⟩ <;> first | rw[if_pos hc] at e | rw[if_neg hc] at e | rw[if_neg (by simp[hc])] at e) <;> try simp only[Out.bind_ok,Out.bind_err,Out.map_ok,Out.map_err,Out.bind_map,Out.bind_bind,Out.map_bind,Out.map_map] at e)
    | exact⟨_,_,e, .inl ⟨rfl,rfl,rfl,rfl,rfl⟩, .inl ⟨rfl,rfl,rfl,rfl,rfl,rfl,rfl,rfl,rfl,rfl,rfl⟩⟩
    | intro _
  rw[if_neg g4] at e
  refine⟨fun g5=> ?_,fun g5=> ?_⟩
  ·rw[if_pos (.inl g5)] at e
   refine⟨fun _=> ?_,fun h=> absurd g5 h⟩
   repeat' first
    | refine kJ hf e fun q e=> ?_
    | refine Gr hf e fun q e=> ?_
    | refine oj hf e fun q e=> ?_
    | refine Gs hf e fun q e=> ?_
    | refine Cu hf e fun q e=> ?_
    | ((refine⟨fun hc=> ?_,fun hc=> ?_⟩ <;> first | rw[if_pos hc] at e | rw[if_neg hc] at e | rw[if_neg (by simp[hc])] at e) <;> try simp only[Out.bind_ok,Out.bind_err,Out.map_ok,Out.map_err,Out.bind_map,Out.bind_bind,Out.map_bind,Out.map_map] at e)
    | exact⟨_,_,e, .inl ⟨rfl,rfl,rfl,rfl,rfl⟩, .inl ⟨rfl,rfl,rfl,rfl,rfl,rfl,rfl,rfl,rfl,rfl,rfl⟩⟩
    | intro _
  refine⟨fun g9=> ?_,fun g9=> ?_⟩
  ·rw[if_pos (.inr g9)] at e
   repeat' first
    | refine kJ hf e fun q e=> ?_
    | refine Gr hf e fun q e=> ?_
    | refine oj hf e fun q e=> ?_
    | refine Gs hf e fun q e=> ?_
    | refine Cu hf e fun q e=> ?_
    | ((refine⟨fun hc=> ?_,fun hc=> ?_⟩ <;> first | rw[if_pos hc] at e | rw[if_neg hc] at e | rw[if_neg (by simp[hc])] at e) <;> try simp only[Out.bind_ok,Out.bind_err,Out.map_ok,Out.map_err,Out.bind_map,Out.bind_bind,Out.map_bind,Out.map_map] at e)
    | exact⟨_,_,e, .inl ⟨rfl,rfl,rfl,rfl,rfl⟩, .inl ⟨rfl,rfl,rfl,rfl,rfl,rfl,rfl,rfl,rfl,rfl,rfl⟩⟩
    | intro _
  rw[if_neg (by omega)] at e
  refine⟨fun g8=> ?_,fun g8=> ?_⟩
  rotate_left
  ·rw[if_neg g8] at e
   exact⟨_,_,e, .inl ⟨rfl,rfl,rfl,rfl,rfl⟩, .inl ⟨rfl,rfl,rfl,rfl,rfl,rfl,rfl,rfl,rfl,rfl,rfl⟩⟩
  rw[if_pos g8] at e
  refine lL (X:=Nat×Rdr×Value×List B) [0,3,4] [4] [] [] [] [] (fun z=> argsE s op a=((nT z.1 z.2.1 z.2.2.2).map fun l=> (l.1,⟨op,a,q.2,E0,E0,E0,false,0,0,l.2, []⟩))∧z.2.2.2.length+z.1≤500) (fun _=> []) (fun z=> [(0, .box b (cW z.2.1)),(3, .box b3 [.v (.int .i64 op), .v (.string a), .v (.string q.2), .v (.string ⟨#[]⟩), .v (.string ⟨#[]⟩), .v (.string ⟨#[]⟩), .v (.bool false), .v (.int .i64 0), .v (.int .i64 0), .own 59 z.2.2.1, .v (.slice none 0 0)]),(59, .row z.2.2.1 aF 1 (z.2.2.2.map enc))]) (fun z=> z.1) (500,q.1, .slice none 0 0, []) [0,3,59] (fun _=> rfl) (by decide) (by decide) ⟨e,by simp⟩ ?_ ?_ ?_
  ·simp
  ·simp[isNilRow]
   exact .nilown 59
  clear e
  rintro⟨k,s1,v,l⟩ ⟨e,hlen⟩
  simp only at e hlen
  obtain _ | k:=k
  ·rw[e,nT] at hf;exact hf.elim
  rw[nT,Out.bind_map] at e
  simp[h1,h3, -Bool.forall_bool, -Bool.exists_bool]
  refine oj hf e fun w e=> ⟨fun hw=> ?_,fun hw=> ?_⟩
  ·rw[if_pos hw,Out.bind_map] at e
   refine kJ hf e fun r2 e=> ?_
   exact⟨by omega,by omega,fun v'=> ⟨k,r2.1,v',l++ [r2.2],⟨e,by simp;omega⟩,⟨.inl ⟨rfl,rfl,rfl,rfl,rfl⟩, .inl (.inl rfl), .inl (.inl (by simp))⟩,by omega⟩⟩
  ·rw[if_neg (by simp[hw]),Out.map_ok] at e
   exact⟨w.1,⟨op,a,q.2,E0,E0,E0,false,0,0,l, []⟩,e, .inl ⟨rfl,rfl,rfl,rfl,rfl⟩, .inl ⟨rfl,rfl,rfl,rfl,rfl,rfl,rfl,rfl,rfl,th aF (by simp[Ny]),rfl⟩⟩
 ·rintro⟨s9,g⟩ e
  simp only at e
  simp
  exact gT s9 g (by simp) (by simp) e
end Go.Gv

namespace Go.Gv
open Go.Proofs
-- query_reader_query while id=0: live [0:r, 2:, 3:q] changed [] res [0, 2, 3, 55]
def ic:CC:=oX [oB 2 (.alloc gJ [oi,oi,oe,oe,oe,oe,ob,on,oe,oe,oi,oi,on,oi,oe,oe,oe,oe,oe,ob,oi,oi,on,on,on,oi])] [0,2] [0,2,55] (oX [oA 5 0,oZ 6 a5 [oT 5]] [0,2] [0,2,55] (oX [oA 7 0,oZ 8 cL [oT 7,.const ob],oB 9 (.build [oi,oi,oe,oe,oe,oe,ob,on,oe,oe,oi,oi,on,oi,oe,oe,oe,oe,oe,ob,oi,oi,on,on,on,oi] [(0,13,oT 8)]),
 oB 3 (.alloc gJ [oi,oi,oe,oe,oe,oe,ob,on,oe,oe,oi,oi,on,oi,oe,oe,oe,oe,oe,ob,oi,oi,on,on,on,oi]),oF 26 3 9] [0,2,3] [0,2,3,55] (iB 3 (oX [oA 10 0,oZ 11 ae [oT 10,oS ⟨#[58,58]⟩]] [0,2,3,11] [0,2,3,55] (.ite (oT 11) (.reg [oA 12 0,oZ 13 cK [oT 12],oE 14 13 3,oF 11 14 13]) (.skip))) (.keep [0,2,3] [0,2,3,55] (iB 5 (.block 0 (.loop 1 (.seq (oX [
 oA 15 0,oZ 16 aQ [oT 15,oS ⟨#[33]⟩],oA 17 16,oI 18 17 (.mv (oT 0)),oI 19 17 (.call cw []),oI 20 17 (.call bf [oT 18,oT 19]),oB 21 (.pick (oT 17) (.const (.bool true)) (oT 20))] [0,2,3,21] [0,2,3,55] (.ite (oT 21) (.skip) (.exit 0))) (.keep [0,2,3] [0,2,3,55] (.block 1 (oX [oA 22 0,oZ 23 ae [oT 22,oS ⟨#[33]⟩],
 oB 24 (.build [oi,ob,oe] [(1,1,oT 23)]),oB 4 (.alloc db [oi,ob,oe]),oF 3 4 24] [0,2,3,4] [0,2,3,4,55] (.seq (.seq (.regd [oZ 25 cw [],oA 26 0,oG 27 26,oE 28 2 27,oE 29 1 28,oC 30 1 29] [oZ 31 bL [oT 25,oT 30],oE 32 0 4,.op none none (.store (some 4) 1 (oT 32) (oT 31))]) (.keep [0,2,3,4] [0,2,3,4,55] (oX [oA 33 0,oG 34 33,oE 35 2 34,
 oE 36 0 35,oC 37 1 36,oB 38 (.eql true false [.int] (oT 37) (oN 2)),oA 39 38,oI 40 39 (.faddr 0 (oT 4)),oI 41 39 (.load false 1 (oT 40)),oI 42 39 (.cmp .lss (oT 41) (oN 1)),oB 43 (.pick (oT 39) (.const (.bool true)) (oT 42))] [0,2,3,4,43] [0,2,3,4,55] (.ite (oT 43) (.reg [oA 44 0,oZ 45 bc [oT 44]]) (.skip))))) (.keep [0,2,3,4] [0,2,3,4,55] (oX [oA 46 0,
 oZ 47 a5 [oT 46]] [0,2,3,4] [0,2,3,4,55] (oX [oA 48 0,oZ 49 az [oT 48],oE 50 2 4,oF 1 50 49] [0,2,3,4] [0,2,3,4,55] (.reg [oE 51 24 3,oC 52 1 51,oD 53 3 4,oB 54 (.bslice db 3 [oT 53]),oB 55 (.append (some 55) db 3 32 (oT 52) (oT 54)),oE 56 24 3,oF 1 56 55]))))))))))) (.keep [0,2,3] [0,2,3,55] (.seq (oX [oA 57 0,
 oB 58 (.bslice aF 1 [oS ⟨#[115,116,114,97,116,101,103,121]⟩]),oZ 59 bf [oT 57,oT 58]] [0,2,3,59] [0,2,3,55] (.ite (oT 59) (oX [oA 60 0,oZ 61 a5 [oT 60]] [0,2,3] [0,2,3,55] (.seq (oX [oA 62 0,oZ 63 cx [],oZ 64 bf [oT 62,oT 63],oB 65 (.not (oT 64))] [0,2,3,65] [0,2,3,55] (.ite (oT 65) (.reg [oA 66 0,
 oZ 67 bc [oT 66]]) (.skip))) (.keep [0,2,3] [0,2,3,55] (.reg [oZ 68 cx [],oA 69 0,oZ 70 az [oT 69],oZ 71 bL [oT 68,oT 70],oE 72 25 3,oF 1 72 71])))) (.skip))) (.keep [0,2,3] [0,2,3,55] (.seq (oX [oA 73 0,oG 74 73,oE 75 2 74,oE 76 0 75,oC 77 1 76,
 oB 78 (.eql true false [.int] (oT 77) (oN 0))] [0,2,3,78] [0,2,3,55] (.ite (oT 78) (.reg [oA 79 0,oZ 80 bc [oT 79]]) (.skip))) (.keep [2,3] [0,2,3,55] (oX [oD 81 26 3,oF 26 2 81] [2] [0,2,55] (.ret))))))))))))
def hJ:List aI:= [.cell 2 true 26]
def uj:List Nat:= [1055055,2032004]
theorem t7:aR Tryz.prog bB uj ic hJ 82:=aA ay (by kernel_rfl)
end Go.Gv

namespace Go.Gv
open Cod (enc dec)
variable {S S0:Nat→Spc} {f:Int×Int}
abbrev s_qstrats:Spc:=dG a0 (fun _=> True) (enc (X:=List B)) fun _ y=> y=dc
theorem RC:Walk ia gZ S a0 (fun _=> True) (enc (X:=List B)) fun _ y=> y=dc:=by
 rintro x -
 simp[ia,gZ]
 exact fK (Y:=List B) dc (.same _) rfl
@[simp] abbrev Ow (n:Nat) (s:Rdr) (_:Unit):Out (Rdr×Qry):=queryE n s
abbrev sP (f:Int×Int) (n:Nat):Spc:=AE a0 (enc (X:=Qry)) f (Ow n)
theorem RO (n:Nat) (h1:S a5=pI) (h2:S cL=F9 f (rQ n)) (h3:S ae=bN) (h4:S aQ=me) (h5:S bf=tH) (h6:S cw=od)
 (h7:S cK=F5 f (nG n)) (h8:S bL=mf) (h9:S bc=qa f) (h10:S az=mg f) (h11:S cx=s_qstrats):
 fj ic hJ S a0 (enc (X:=Qry)) f (Ow n):=by
 rintro b s ⟨⟩ hf
 have hf: (queryE n s).fine f:=hf
 have e:=queryE.eq_1 n s
 simp only[cG,fV] at e
 simp[ic,hJ,h1,h2, -Bool.forall_bool, -Bool.exists_bool]
 intro b2
 refine oj hf e fun q1 e=> ?_
 refine kJ hf e fun p e=> ?_
 intro b3
 refine rF (X:=Rdr×Glob) [0,2] [2] [] [] (fun z=> queryE n s=(gN 500 z.1 []).bind fun f=> (vG f.1).bind fun z'=> if z'.1.kind=0 then .ok (z'.1,⟨p.2,z.2,f.2,z'.2⟩) else .err (z'.1.pos,3)) (fun _=> [(3, .bptr 3 b3 0)]) (fun z=> [(0, .box b (cW z.1)),(3, .box b3 [.v (.int .i64 p.2.op), .v (.int .i64 p.2.cond.op), .v (.string p.2.cond.name), .v (.string p.2.cond.arg), .v (.string p.2.cond.val), .v (.string p.2.cond.lab), .v (.bool p.2.cond.fold),enc p.2.cond.kids, .v (.string p.2.lab), .v (.string p.2.reg), .v (.int .i64 p.2.mn), .v (.int .i64 p.2.mx),enc p.2.kids, .v (.int .i64 z.2.op), .v (.string z.2.a), .v (.string z.2.b), .v (.string z.2.name), .v (.string z.2.arg), .v (.string z.2.val), .v (.bool z.2.fold), .v (.int .i64 z.2.mn), .v (.int .i64 z.2.mx),enc z.2.args,enc z.2.kids, .v (.slice none 0 0), .v (.int .i64 0)])]) [0,3] (fun _=> rfl) (by decide) ?_ ?_
 ·simp[h3,h7, -Bool.forall_bool, -Bool.exists_bool]
  refine oj hf e fun w e=> ⟨fun hc=> ?_,fun hc=> ?_⟩
  ·rw[if_pos hc] at e
   refine kJ hf e fun g e=> ?_
   exact⟨_,_,e, .inl ⟨rfl,rfl,rfl,rfl,rfl⟩, .inl (.inl ⟨rfl,rfl,rfl,rfl,rfl,rfl,rfl,rfl,rfl,rfl,rfl⟩)⟩
  ·rw[if_neg (by simp[hc]),Out.bind_ok] at e
   exact⟨_,fP,e, .inl ⟨rfl,rfl,rfl,rfl,rfl⟩, .inl ⟨rfl,rfl,rfl,rfl,rfl,rfl,rfl,rfl,rfl,rfl,rfl⟩⟩
 clear e
 rintro⟨s1,g⟩ e
 simp only at e
 refine rF (X:=Rdr×List jT) [0,2] [2] [55] [] (fun z=> queryE n s=(vG z.1).bind fun z'=> if z'.1.kind=0 then .ok (z'.1,⟨p.2,g,z.2,z'.2⟩) else .err (z'.1.pos,3)) (fun _=> [(3, .bptr 3 b3 0)]) (fun z=> [(0, .box b (cW z.1)),(3, .box b3 [.v (.int .i64 p.2.op), .v (.int .i64 p.2.cond.op), .v (.string p.2.cond.name), .v (.string p.2.cond.arg), .v (.string p.2.cond.val), .v (.string p.2.cond.lab), .v (.bool p.2.cond.fold),enc p.2.cond.kids, .v (.string p.2.lab), .v (.string p.2.reg), .v (.int .i64 p.2.mn), .v (.int .i64 p.2.mx),enc p.2.kids, .v (.int .i64 g.op), .v (.string g.a), .v (.string g.b), .v (.string g.name), .v (.string g.arg), .v (.string g.val), .v (.bool g.fold), .v (.int .i64 g.mn), .v (.int .i64 g.mx),enc g.args,enc g.kids,enc z.2, .v (.int .i64 0)])]) [0,3] (fun _=> rfl) (by decide) ?_ ?_
 ·simp
  refine lL (X:=Nat×Rdr×Value×List jT) [0,2,3] [2] [] [] [] [] (fun z=> (queryE n s=(gN z.1 z.2.1 z.2.2.2).bind fun f=> (vG f.1).bind fun z'=> if z'.1.kind=0 then .ok (z'.1,⟨p.2,g,f.2,z'.2⟩) else .err (z'.1.pos,3))∧z.2.2.2.length+z.1≤500) (fun _=> []) (fun z=> [(0, .box b (cW z.2.1)),(3, .box b3 [.v (.int .i64 p.2.op), .v (.int .i64 p.2.cond.op), .v (.string p.2.cond.name), .v (.string p.2.cond.arg), .v (.string p.2.cond.val), .v (.string p.2.cond.lab), .v (.bool p.2.cond.fold),enc p.2.cond.kids, .v (.string p.2.lab), .v (.string p.2.reg), .v (.int .i64 p.2.mn), .v (.int .i64 p.2.mx),enc p.2.kids, .v (.int .i64 g.op), .v (.string g.a), .v (.string g.b), .v (.string g.name), .v (.string g.arg), .v (.string g.val), .v (.bool g.fold), .v (.int .i64 g.mn), .v (.int .i64 g.mx),enc g.args,enc g.kids, .own 55 z.2.2.1, .v (.int .i64 0)]),(55, .row z.2.2.1 db 3 (z.2.2.2.map enc))]) (fun z=> z.1) (500,s1, .slice none 0 0, []) [0,3,55] (fun _=> rfl) (by decide) (by decide) ⟨e,by simp⟩ ?_ ?_ ?_
  ·simp
  ·simp[isNilRow]
   exact .nilown 55
  clear e
  rintro⟨k,s2,v,fs⟩ ⟨e,hlen⟩
  simp only at e hlen
  obtain _ | k:=k
  ·rw[e,gN] at hf;exact hf.elim
  rw[gN] at e
  simp[h1,h3,h4,h5,h6,h8,h9,h10, -Bool.forall_bool, -Bool.exists_bool]
  refine⟨fun g1=> ⟨fun g2=> ?_,fun g2=> ?_⟩,fun g1=> ?_⟩
  ·rw[if_pos (by simp[g2])] at e
   simp only[Q3,cG,fV,Out.bind_bind] at e
   refine oj hf e fun w e=> ?_
   intro b4
   refine⟨fun k2=> ⟨fun i1=> ?_,fun i1=> ?_⟩,fun k2=> ?_⟩
   ·rw[if_pos (.inr i1)] at e
    rw[e] at hf;exact hf
   ·rw[if_neg (by simp only[fw];omega)] at e
    simp only[Out.bind_bind,Out.map_bind] at e
    refine oj hf e fun x e=> ?_
    refine kJ hf e fun r e=> ?_
    exact⟨by omega,by omega,fun v'=> ⟨k,r.1,v',fs++ [⟨fw filterL w.1.text,w.2,r.2⟩],⟨e,by simp;omega⟩,⟨.inl ⟨rfl,rfl,rfl,rfl,rfl⟩, .inl (.inl rfl), .inl (.inl (by simp[fw]))⟩,by omega⟩⟩
   ·rw[if_pos (.inl k2)] at e
    rw[e] at hf;exact hf
  ·rw[if_neg (by simp[g1,g2]),Out.bind_ok] at e
   exact⟨s2,fs,e, .inl ⟨rfl,rfl,rfl,rfl,rfl⟩, .inl (th db (by simp[Ny]))⟩
  ·rw[if_pos (by simp[g1])] at e
   simp only[Q3,cG,fV,Out.bind_bind] at e
   refine oj hf e fun w e=> ?_
   intro b4
   refine⟨fun k2=> ⟨fun i1=> ?_,fun i1=> ?_⟩,fun k2=> ?_⟩
   ·rw[if_pos (.inr i1)] at e
    rw[e] at hf;exact hf
   ·rw[if_neg (by simp only[fw];omega)] at e
    simp only[Out.bind_bind,Out.map_bind] at e
    refine oj hf e fun x e=> ?_
    refine kJ hf e fun r e=> ?_
    exact⟨by omega,by omega,fun v'=> ⟨k,r.1,v',fs++ [⟨fw filterL w.1.text,w.2,r.2⟩],⟨e,by simp;omega⟩,⟨.inl ⟨rfl,rfl,rfl,rfl,rfl⟩, .inl (.inl rfl), .inl (.inl (by simp[fw]))⟩,by omega⟩⟩
   ·rw[if_pos (.inl k2)] at e
    rw[e] at hf;exact hf
 clear e
 rintro⟨s2,fs⟩ e
 simp only at e
 simp[h1,h5,h8,h9,h10,h11, -Bool.forall_bool, -Bool.exists_bool]
 simp only[vG,fV] at e
 have fin: ∀ (s':Rdr) (st:Int) (b4:Nat) (H:ab),H 0=some (.box b (cW s'))→queryE n s=(if s'.kind=0 then .ok (s',⟨p.2,g,fs,st⟩) else .err (s'.pos,3))→(¬s'.kind=0→(s'.pos,3)=f)∧(s'.kind=0→queryE n s= .ok (s',⟨p.2,g,fs,st⟩)):=by
  intro s' st _ H _ e
  refine⟨fun h=> ?_,fun h=> ?_⟩
  ·rw[if_neg h] at e
   rw[e] at hf;exact hf
  ·rw[if_pos h] at e;exact e
 refine⟨fun g1=> ?_,fun g1=> ?_⟩
 ·rw[if_pos (show fU s2 [pS]=true from g1),Out.bind_bind] at e
  refine oj hf e fun x e=> ⟨fun g2=> ?_,fun g2=> ?_⟩
  ·rw[if_neg (by simp[g2])] at e
   rw[e] at hf;exact hf
  ·rw[if_pos g2,Out.map_bind] at e
   refine kJ hf e fun q e=> ?_
   have hx:=fin q.1 _ 0 (au cF 0 (some (.box b (cW q.1)))) (by simp) e
   exact⟨hx.1,fun h0=> gT q.1 (⟨p.2,g,fs,fw dc q.2⟩:Qry) (by rw[Bt];exact ox (by simp[fw])) (by simp) (hx.2 h0)⟩
 ·rw[if_neg (by rw[show fU s2 [pS]=false from g1];simp),Out.bind_ok] at e
  have hx:=fin s2 0 0 (au cF 0 (some (.box b (cW s2)))) (by simp) e
  exact⟨hx.1,fun h0=> gT s2 (⟨p.2,g,fs,0⟩:Qry) (by rw[Bt];exact ox (by simp)) (by simp) (hx.2 h0)⟩
end Go.Gv

namespace Go.Gv
open Cod (enc dec)
open Go.Proofs
def zeroQ:List Value:= [(.int .i64 0),(.int .i64 0),(.string ⟨#[]⟩),(.string ⟨#[]⟩),(.string ⟨#[]⟩),(.string ⟨#[]⟩),(.bool false),(.slice none 0 0),(.string ⟨#[]⟩),(.string ⟨#[]⟩),(.int .i64 0),(.int .i64 0),(.slice none 0 0),(.int .i64 0),(.string ⟨#[]⟩),(.string ⟨#[]⟩),(.string ⟨#[]⟩),(.string ⟨#[]⟩),(.string ⟨#[]⟩),(.bool false),(.int .i64 0),(.int .i64 0),(.slice none 0 0),(.slice none 0 0),(.slice none 0 0),(.int .i64 0)]
def qi3:List CI:= [.op (some 4) none (.alloc 63 [(.int .i64 0),(.int .i64 0)]), .op none none (.store none 2 (.tmp 4) (.tmp 12)), .op (some 5) none (.mv (.tmp 13))]
def qdy:CC:= .seq (.seq (.reg [
 .op (some 14) none (.mv (.tmp 5)),
 .op (some 15) none (.not (.tmp 14))])
 (.ite (.tmp 15) (.reg [
   .op (some 16) none (.mv (.tmp 3)),
   .op none none (.bad)])
   (.skip)))
 (.regd [
   .op (some 17) none (.build [(.int .i64 0),(.int .i64 0),(.string ⟨#[]⟩),(.string ⟨#[]⟩),(.string ⟨#[]⟩),(.string ⟨#[]⟩),(.bool false),(.slice none 0 0),(.string ⟨#[]⟩),(.string ⟨#[]⟩),(.int .i64 0),(.int .i64 0),(.slice none 0 0),(.int .i64 0),(.string ⟨#[]⟩),(.string ⟨#[]⟩),(.string ⟨#[]⟩),(.string ⟨#[]⟩),(.string ⟨#[]⟩),(.bool false),(.int .i64 0),(.int .i64 0),(.slice none 0 0),(.slice none 0 0),(.slice none 0 0),(.int .i64 0)] []),
   .op (some 18) none (.faddr 0 (.tmp 4)),
   .op (some 19) none (.load false 1 (.tmp 18)),
   .op (some 20) none (.faddr 1 (.tmp 4)),
   .op (some 21) none (.load false 1 (.tmp 20)),
   .op none none (.store (some 100) 26 (.tmp 0) (.tmp 17)),
   .op none none (.store (some 101) 1 (.tmp 1) (.tmp 19))] [
   .op none none (.store (some 102) 1 (.tmp 2) (.tmp 21))])
def qlE:List Nat:= [2000100,2001101,2002102]
def qdp:Code→Option Code
 | .seq _ (.seq _ (.cond _ (.seq _ a) _))=> some a
 | _=> none
theorem qgs: ((Tryz.f27.body.bind qdp).bind fun c=> bd Tryz.prog qlE 22 c)=some (dZ qdy):=by kernel_rfl
def qcs (f:Int×Int) (b2 b3 b4:Nat):Sg:=d9 [.bptr 100 b2 0, .bptr 101 b3 0, .bptr 102 b4 0, .any, .any, .any, .any, .any, .any, .any, .any, .any, .agg [.v (.int .i64 f.1), .v (.int .i64 f.2)], .v (.bool true)]
theorem ql7 {S:Nat→Spc} (f:Int×Int) (b2 b3 b4:Nat) (c2:List D) (c3 c4:D) (h2:c2.length=26):xz S qi3 (qcs f b2 b3 b4) (au (au (au cF 100 (some (.box b2 c2))) 101 (some (.box b3 [c3]))) 102 (some (.box b4 [c4])))
 fun σ H=> vc S qdy (Vi fun _ H=> H 100=some (.box b2 (zeroQ.map tv))∧H 101=some (.box b3 [.v (.int .i64 f.1)])∧H 102=some (.box b4 [.v (.int .i64 f.2)])) σ H:=by
 simp[qi3,qdy,qcs,Vi,h2,zeroQ]
 skip
def M2 (b:Nat):Value:= .pointer (some ⟨b,0,none⟩)
def Zw (t:Option TypeDesc):Bool:=match t with | some (.struct _)=> true | _=> false
theorem VC {t:Option TypeDesc} (h:Zw t=true): ∃fs,t=some (.struct fs):=by
 unfold Zw at h
 split at h
 ·exact⟨_,rfl⟩
 ·cases h
theorem und_fault: ∃fs,Tryz.prog.underlying 63=some (.struct fs):=VC (by kernel_rfl)
theorem Ge {P:Program} {t u:Nat} {fs:Array Field} (h:P.underlying t=some (.struct fs)) (v:Value) (w:World): (Instr.typeAssert (.iface t v) u t true).run P w= .ok (.tuple #[v, .bool true]) w:=by
 simp[Instr.typeAssert,run_underlying h]
theorem R3 (v:Value) (w:World): (Instr.typeAssert (.iface 63 v) 20 63 true).run Tryz.prog w= .ok (.tuple #[v, .bool true]) w:=und_fault.elim fun _ h=> Ge h v w
theorem Ya {E:pR} {H H':ab} {w:World} (ρ:Nat→Nat) (h: ∃tp,StW E tp H w) (h2: ∀i r,H' i=some r→H (ρ i)=some r) (h3: ∀i j r s,H' i=some r→H' j=some s→ρ i=ρ j→i=j): ∃tp,StW E tp H' w:=by
 obtain⟨tp,h⟩:=h
 have hst:St { E with N:=0,ds:= [] } (fun _=> .any) H { tmps:= #[],defers:= [] } w:=⟨rfl,rfl,tp,⟨h.1,h.2,h.3,h.4,h.5,h.6,h.7⟩,fun t=> .any _⟩
 obtain⟨_,_,tp',h',_⟩:=Ke (Hf:=cF) (σ':=fun _=> .any) ρ (fun t=> .same _) (fun i r k=> .inl ⟨r,h2 i r k, .inl rfl⟩) (fun i j r s a b e=> .inl (h3 i j r s a b e)) (fun i r k=> by cases k) _ _ w hst
 exact⟨tp',⟨h'.1,h'.2,h'.3,h'.4,h'.5,h'.6,h'.7⟩⟩
def H3 (i j k:Nat) (r s t:Res):ab:=au (au (au cF i (some r)) j (some s)) k (some t)
theorem NM (E:pR) (f:Int×Int) (b2 b3 b4:Nat) (c2:List D) (c3 c4:D) (hc2:c2.length=26) (w:World) (hst: ∃tp,StW E tp (H3 100 101 102 (.box b2 c2) (.box b3 [c3]) (.box b4 [c4])) w):CallsD Tryz.prog 27 #[M2 b2,M2 b3,M2 b4] (.panicking [{ v:=so 63 f,recovered:=false }]) w fun e u' w'=> e= .returned (.tuple #[])∧u'= .panicking [{ v:=so 63 f,recovered:=true }]∧
 ∃tp H,StW E tp H w'∧H 100=some (.box b2 (zeroQ.map tv))∧H 101=some (.box b3 [.v (.int .i64 f.1)])∧H 102=some (.box b4 [.v (.int .i64 f.2)]):=by
 refine callsD_of_wpS Tryz.func27 rfl fun c₀ cs hu=> ?_
 apply wpS_seq
 apply wpS_region
 simp[wpOpsS,go_sem,recoverD,hu,Tryz.ntmps27,Exit.thenS]
 apply wpS_seq
 apply wpS_region
 simp[wpOpsS,go_sem,recoverD,hu,Tryz.ntmps27,Exit.thenS,so]
 refine wpS_cond (t:=true) (by simp[Act.eval,Array.replicate]) ?_
 simp only[if_true]
 refine wpS_of_wp ?_
 refine wp_seq ?_
 refine wp_region_list ?_
 refine wpList_plain rfl fun K hK=> ?_
 simp[go_sem]
 refine hK _ _ ?_
 refine wpList_plain rfl fun K hK=> ?_
 simp[go_sem,R3]
 refine hK _ _ ?_
 refine wpList_plain rfl fun K hK=> ?_
 simp[go_sem]
 refine hK _ _ ?_
 refine wpList_plain rfl fun K hK=> ?_
 simp[go_sem]
 refine hK _ _ ?_
 refine wpList_plain rfl fun K hK=> ?_
 simp[go_sem]
 refine hK _ _ ?_
 clear hK
 obtain⟨tp,hst⟩:=hst
 refine Jq (z:=JC) (E:= { E with N:=22,ds:= [] }) (im:= []) (S:=fun _=> .none) (K:=fun σ H=> vc (fun _=> .none) qdy (Vi fun _ H=> H 100=some (.box b2 (zeroQ.map tv))∧H 101=some (.box b3 [.v (.int .i64 f.1)])∧H 102=some (.box b4 [.v (.int .i64 f.2)])) σ H) (fun c a w' _ h=> h.1.elim) ?_ qi3 (fun x hx=> CJ (fun _=> l7 _ _) x) _ (by kernel_rfl) (qcs f b2 b3 b4) (H3 100 101 102 (.box b2 c2) (.box b3 [c3]) (.box b4 [c4])) _ _ ?_ (ql7 f b2 b3 b4 c2 c3 c4 hc2)
 ·intro σ H a w hs hk
  refine wp_mono (ij (E:= { E with N:=22,ds:= [] }) (im:=qlE) (fun _=> l7 _ _) ay qdy _ qgs _ _ _ _ _ hs hk) ?_
  intro e a' w' hP
  cases e with
  | normal=>
    obtain⟨σ',H',hs',hk'⟩:=hP
    refine⟨hs'.1,_,rfl, .tuple #[],by simp[results,Tryz.results27],rfl,rfl,?_⟩
    obtain⟨_,_,tp',h',_⟩:=hs'
    exact⟨tp',H',⟨h'.1,h'.2,h'.3,h'.4,h'.5,h'.6,h'.7⟩,hk'⟩
  | ret=> obtain⟨_,_,_,h⟩:=hP;exact h.elim
  | exit i=> obtain⟨_,_,_,h⟩:=hP;exact h.elim
  | _=> exact hP.elim
 ·refine⟨rfl,by simp,tp,⟨hst.1,hst.2,hst.3,hst.4,hst.5,hst.6,hst.7⟩,fun t=> ?_⟩
  have any: ∀ {x:Value} {k:Nat},qcs f b2 b3 b4 k= .any→R tp (cm E.O tp (H3 100 101 102 (.box b2 c2) (.box b3 [c3]) (.box b4 [c4])) w) w x (qcs f b2 b3 b4 k):=fun h=> by rw[h];exact .any _
  rw[Array.getD_eq_getD_getElem?]
  match t with
  | 0=>
    simp[Array.getElem?_append]
    exact .bptr 100 b2 0
  | 1=>
    simp[Array.getElem?_append]
    exact .bptr 101 b3 0
  | 2=>
    simp[Array.getElem?_append]
    exact .bptr 102 b4 0
  | 3=> exact any rfl
  | 4=> exact any rfl
  | 5=> exact any rfl
  | 6=> exact any rfl
  | 7=> exact any rfl
  | 8=> exact any rfl
  | 9=> exact any rfl
  | 10=> exact any rfl
  | 11=> exact any rfl
  | 12=>
    simp[Array.getElem?_append,Array.getElem?_setIfInBounds]
    refine .agg [.int .i64 f.1, .int .i64 f.2] _ rfl (by simp[Value.oneCell']) fun k x c hx hc=> ?_
    rcases k with _ | _ | k
    ·cases hx;cases hc;exact .v _ rfl (fun s hs=> by cases hs)
    ·cases hx;cases hc;exact .v _ rfl (fun s hs=> by cases hs)
    ·simp at hx
  | 13=>
    simp[Array.getElem?_append,Array.getElem?_setIfInBounds]
    exact .v (.bool true) rfl (fun s hs=> by cases hs)
  | t+14=> exact any rfl
end Go.Gv

namespace Go.Gv
open Cod (enc dec)
open Go.Proofs
section
variable {P:Program} {im:List Nat} {E:pR} {S:Nat→Spc}
theorem Ye {ops:Array Oper} {Q:Exit→Act→World→Prop} {K:Sg→ab→Prop} {z:List PanicEntry→Prop} (hpan: ∀c a w',a.defers=E.ds→Oq E z c w'→Q (.panic c) a w') {l2:List Oper} (hQ: ∀σ H a w,St E σ H a w→K σ H→wpList P ops Q l2 a w):
 ∀ (cis:List CI) (hS: ∀x∈cis,dS P z S x) (l:List Oper),l.mapM (dE P im E.N ops)=some (cis.filter CI.real)→ ∀ (σ:Sg) (H:ab) (a:Act) (w:World),St E σ H a w→xz S cis σ H K→wpList P ops Q (l++l2) a w:=by
 intro cis
 induction cis with
 | nil=>
   intro hS l hl σ H a w hst hv
   cases l with
   | nil=> exact hQ σ H a w hst hv
   | cons o l=>
     rw[List.mapM_cons] at hl
     simp only[Option.bind_eq_bind,Option.bind_eq_some_iff,List.filter_nil] at hl
     obtain⟨x,_,y,_,h⟩:=hl
     cases h
 | cons x cis ih=>
   intro hS l hl σ H a w hst hv
   have ih:=ih fun x hx=> hS x (by simp[hx])
   have hS0:=hS _ (List.mem_cons_self ..)
   cases x with
   | frz t n=>
     simp only[xz] at hv
     obtain⟨σ',H',hst',hv'⟩:=Dh hst hv
     exact ih l (by simpa [List.filter_cons,CI.real] using hl) σ' H' a w hst' hv'
   | op dst g c=>
     cases l with
     | nil=> simp[List.filter_cons,CI.real] at hl
     | cons o l=>
       rw[List.mapM_cons] at hl
       simp only[Option.bind_eq_bind,Option.bind_eq_some_iff,List.filter_cons,CI.real,if_true] at hl
       obtain⟨x,hx,y,hy,h⟩:=hl
       cases h
       unfold dE at hx
       simp only[Option.bind_eq_bind,Option.bind_eq_some_iff] at hx
       obtain⟨c',hc,g',hg,hx⟩:=hx
       split at hx
       ·rename_i hdst
        cases hx
        have hdst:=P3 hdst
        have hst0:=hst
        obtain⟨hd,hN,tp,hw,hr⟩:=hst
        simp only[xz] at hv
        rw[List.cons_append]
        unfold wpList
        rcases rN hg hr hv with⟨hwant,hyes⟩ | ⟨hwant,hno⟩
        ·rw[if_pos hwant]
         exact .inl (xt hS0 hc hw hd hN hr hdst hyes (fun c w'=> hpan c a w' hd) (fun r H' x w' hk hst'=> ih l hy _ _ _ _ hst' hk))
        ·rw[if_neg (by simp[hwant])]
         exact ih l hy _ _ _ _ (hst0.skip o.dst hdst) hno
       ·cases hx
end
def tZ (s:B):Option (Qry×Int×Int):=if 400 < s.size then some (vX,0,2) else match queryE 500 ⟨s,0,0,E0,0⟩ with
 | .ok r=> some (r.2,0,0)
 | .err f=> some (vX,f.1,f.2)
 | .no=> none
def qi2:List CI:= [.op (some 10) none (.mv (.tmp 0)), .op (some 11) none (.build [(.string ⟨#[]⟩),(.int .i64 0),(.int .i64 0),(.string ⟨#[]⟩),(.int .i64 0)] [(0,1,(.tmp 10))]), .op (some 12) none (.box 69 false (.tmp 11))]
def KP (s:B) (b2 b3 b4:Nat) (σ:Sg) (H:ab):Prop:=σ 2= .bptr 2 b2 0∧σ 3= .bptr 3 b3 0∧σ 4= .bptr 4 b4 0∧H 2=some (.box b2 (zeroQ.map tv))∧H 3=some (.box b3 [.v (.int .i64 0)])∧H 4=some (.box b4 [.v (.int .i64 0)])∧ ∃b12,σ 12= .bptr 12 b12 0∧H 12=some (.box b12 (cW ⟨s,0,0,E0,0⟩))
theorem qcg {S:Nat→Spc} (s:B) (hs: ¬400 < s.size):vc S Jc (Vi fun σ H=> vc S Jb (Vi fun σ H=> ∃b2 b3 b4,(σ 2= .bptr 2 b2 0∧σ 3= .bptr 3 b3 0∧σ 4= .bptr 4 b4 0)∧xz S qi2 (l5 σ 9 .any) H (KP s b2 b3 b4)) σ H) (d9 ((a1 B).view s)) cF:=by
 have hsz': ¬ (400:Int) < s.size:=by omega
 simp[Jc,Jb,qi2,Vi,hsz',KP,zeroQ,E0]
 exact fun b b1 b2 _=> ⟨b,b1,b2,⟨rfl,rfl,rfl⟩,rfl,rfl,rfl,rfl,rfl,rfl⟩
theorem PB {E:pR} {tp:Nat→Prop} {H:ab} {w w':World} {b12:Nat} {r2 r3 r4 r12:Res} (h:StW E tp H w) (h2:H 2=some r2) (h3:H 3=some r3) (h4:H 4=some r4) (h12:H 12=some r12) (hb:r12.blk=some b12)
 (hs:Step tp (fun b=> b=b12) w w'): ∃tp,StW E tp (H3 100 101 102 r2 r3 r4) w':=by
 refine Ya (H:=au (au (au cF 2 (some r2)) 3 (some r3)) 4 (some r4)) (fun i=> i -98) ?_ (fun i r hi=> ?_) (fun i j r s hi hj e=> ?_)
 ·have hsub: ∀i r,au (au (au cF 2 (some r2)) 3 (some r3)) 4 (some r4) i=some r→H i=some r∧i≠12:=by
   intro i r hi
   simp only[au] at hi
   split at hi
   ·rename_i e;subst e;cases hi;exact⟨h4,by decide⟩
   ·split at hi
    ·rename_i e;subst e;cases hi;exact⟨h3,by decide⟩
    ·split at hi
     ·rename_i e;subst e;cases hi;exact⟨h2,by decide⟩
     ·cases hi
  have hown: ∀b,eR (au (au (au cF 2 (some r2)) 3 (some r3)) 4 (some r4)) b→eR H b∧b≠b12:=fun b ⟨i,r,hi,hr⟩=> by
   obtain⟨a1,a2⟩:=hsub i r hi
   exact⟨⟨i,r,a1,hr⟩,fun e=> a2 (h.sat.dis i 12 r r12 b a1 h12 hr (by rw[hb,e]))⟩
  have hne: ∀b,¬eR H b→b≠b12:=fun b ho e=> ho ⟨12,r12,h12,by rw[hb,e]⟩
  refine⟨tp,(h.move (H':=au (au (au cF 2 (some r2)) 3 (some r3)) 4 (some r4)) ⟨hs.os,hs.tape,hs.output,hs.size,fun b hlt ho ht=> hs.same b hlt (hne b ho) ht,hs.tapes,hs.drawn⟩ (fun _ h=> h) (fun b h=> .inl h) (fun b hb'=> Nat.lt_of_lt_of_le (h.tpl b hb') hs.size) (fun b hb'=> .inl (hown b hb').1) ⟨fun i j r s b k1 k2 k3 k4=> ?_,fun i r b k1 k2=> ?_,fun i r k1=> ?_⟩).1⟩
  ·exact h.sat.dis i j r s b (hsub i r k1).1 (hsub j s k2).1 k3 k4
  ·exact h.sat.out i r b (hsub i r k1).1 k2
  ·refine(h.sat.ok i r (hsub i r k1).1).conv (fun x d hr=> hr.mono (fun _ h=> h) (fun b hi=> ⟨⟨Nat.lt_of_lt_of_le hi.1 hs.size,hi.2.1,hi.2.2.1,fun ho=> hi.2.2.2 (hown b ho).1⟩,hs.same b hi.1 (hne b hi.2.2.2) hi.2.2.1⟩) hs.tapes) (fun b hk=> ?_)
   exact hs.same b ((h.sat.ok i r (hsub i r k1).1).lt hk) (hown b ⟨i,r,k1,hk⟩).2 (h.sat.out i r b (hsub i r k1).1 hk).2
 ·simp only[H3,au] at hi
  split at hi
  ·rename_i e;subst e;cases hi;rfl
  ·split at hi
   ·rename_i e;subst e;cases hi;rfl
   ·split at hi
    ·rename_i e;subst e;cases hi;rfl
    ·cases hi
 ·have hk: ∀i r,H3 100 101 102 r2 r3 r4 i=some r→100≤i:=by
   intro i r hi
   simp only[H3,au] at hi
   split at hi
   ·omega
   ·split at hi
    ·omega
    ·split at hi
     ·omega
     ·cases hi
  have a:=hk i r hi
  have b:=hk j s hj
  omega
theorem WH {f:Int×Int} {s:B} (hq:TriZ (zF aB f) Tryz.prog bB (sP f 500).pt) (hF:queryE 500 ⟨s,0,0,E0,0⟩= .err f) {E:pR} {tp:Nat→Prop} {H:ab} {w:World} {a:Act} {σ:Sg} {b2 b3 b4:Nat} (h:StW E tp H w)
 (hr: ∀t,R tp (cm E.O tp H w) w (a.tmps.getD t undef) (σ t)) (hk:KP s b2 b3 b4 σ H): ∃b12,a.tmps.getD 12 undef=M2 b12∧fF Tryz.prog bB∧Calls Tryz.prog bB #[M2 b12] w fun e w'=> e= .panicked [{ v:=so aB f,recovered:=false }]∧
   ∃tp,StW E tp (H3 100 101 102 (.box b2 (zeroQ.map tv)) (.box b3 [.v (.int .i64 0)]) (.box b4 [.v (.int .i64 0)])) w':=by
 obtain⟨k2,k3,k4,h2,h3,h4,b12,k12,h12⟩:=hk
 have r12:=hr 12
 rw[k12] at r12
 have inv: ∀x,R tp (cm E.O tp H w) w x (.bptr 12 b12 0)→x=M2 b12:=fun x hx=> by cases hx;rfl
 refine⟨b12,inv _ r12,?_⟩
 let O':Nat→Prop:=fun b=> E.O b∨b=b2∨b=b3∨b=b4
 let H':ab:=au cF 12 (some (.box b12 (cW ⟨s,0,0,E0,0⟩)))
 have hH: ∀i r,H' i=some r→i=12∧r= .box b12 (cW ⟨s,0,0,E0,0⟩):=by
  intro i r hi
  simp only[H',au] at hi
  split at hi
  ·rename_i e;cases hi;exact⟨e,rfl⟩
  ·cases hi
 have hown: ∀b,eR H' b→b=b12:=fun b ⟨i,r,hi,hb⟩=> by
  obtain⟨_,rfl⟩:=hH i r hi
  cases hb;rfl
 have l2:b2 < w.heap.size:=(h.sat.ok 2 _ h2).lt rfl
 have l3:b3 < w.heap.size:=(h.sat.ok 3 _ h3).lt rfl
 have l4:b4 < w.heap.size:=(h.sat.ok 4 _ h4).lt rfl
 have n2:b12≠b2:=fun e=> by have:=h.sat.dis 12 2 _ _ b12 h12 h2 rfl (by rw[e];rfl);cases this
 have n3:b12≠b3:=fun e=> by have:=h.sat.dis 12 3 _ _ b12 h12 h3 rfl (by rw[e];rfl);cases this
 have n4:b12≠b4:=fun e=> by have:=h.sat.dis 12 4 _ _ b12 h12 h4 rfl (by rw[e];rfl);cases this
 have himm: ∀b,cm E.O tp H w b→cm O' tp H' w b:=fun b hb=> ⟨hb.1,fun ho=> by
  rcases ho with ho | rfl | rfl | rfl
  ·exact hb.2.1 ho
  ·exact hb.2.2.2 ⟨2,_,h2,rfl⟩
  ·exact hb.2.2.2 ⟨3,_,h3,rfl⟩
  ·exact hb.2.2.2 ⟨4,_,h4,rfl⟩,hb.2.2.1,fun ho=> hb.2.2.2 ⟨12,_,h12,by rw[hown b ho];rfl⟩⟩
 have hsat:qbo O' tp H' w:=by
  refine⟨fun i j r s b k1 k2 _ _=> (hH i r k1).1.trans (hH j s k2).1.symm,fun i r b k1 kb=> ?_,fun i r k1=> ?_⟩
  ·obtain⟨_,rfl⟩:=hH i r k1
   cases kb
   have:=h.sat.out 12 _ b12 h12 rfl
   refine⟨fun ho=> ?_,this.2⟩
   rcases ho with ho | ho | ho | ho
   ·exact this.1 ho
   ·exact n2 ho
   ·exact n3 ho
   ·exact n4 ho
  ·obtain⟨_,rfl⟩:=hH i r k1
   exact(h.sat.ok 12 _ h12).conv (fun x d hr=> hr.mono (fun _ h=> h) (fun b hb=> ⟨himm b hb,rfl⟩) (fun b _=> .refl _ _)) (fun _ _=> rfl)
 have hO: ∀b,O' b→b < w.heap.size:=fun b ho=> by
  rcases ho with ho | rfl | rfl | rfl
  ·exact Nat.lt_of_lt_of_le (h.hO b ho) h.step.size
  ·exact l2
  ·exact l3
  ·exact l4
 obtain⟨hce,hc⟩:=hq O' tp w [M2 b12] [.bptr 12 b12 0] H' 13 (fun _ _=> False) hO h.tpl hsat rfl (fun k x c hx hc=> by
  rcases k with _ | k
  ·cases hx;cases hc;exact .bptr _ _ _
  ·simp at hx) (by
  rw[UL]
  refine⟨⟨s,0,0,E0,0⟩,by simp[H',au],?_⟩
  show AL f (queryE 500 ⟨s,0,0,E0,0⟩) _
  rw[hF]
  rfl)
 refine⟨hce,hc.mono ?_⟩
 rintro e w' (⟨x,r,H1,tp1,_,hk,_⟩ | ⟨c,rfl,hz,hs⟩)
 ·exact hk.elim
 ·refine⟨by rw[hz.1],?_⟩
  exact PB h h2 h3 h4 h12 rfl ⟨hs.os,hs.tape,hs.output,hs.size,fun b hlt ho ht=> hs.same b hlt (fun e=> ho (hown b e)) ht,hs.tapes,hs.drawn⟩
theorem Kb {P:Program} {ops:Array Oper} {Q:Exit→Act→World→Prop} {l:List Oper} {a:Act} {w:World} (n:Nat) (h:wpList P ops Q (l.take n++l.drop n) a w):wpList P ops Q l a w:=by rwa [List.take_append_drop] at h
theorem Cq {tp I:Nat→Prop} {w:World} {x:Value} {id b:Nat} (h:R tp I w x (.bptr id b 0)):x=M2 b:=by cases h;rfl
theorem WK {f:Int×Int} {s:B} (hsz: ¬400 < s.size) (hq:TriZ (zF aB f) Tryz.prog bB (sP f 500).pt) (hF:queryE 500 ⟨s,0,0,E0,0⟩= .err f) (E:pR) (Q:D→ab→Prop) (vs:List Value) (w:World) (R:Ending→World→Prop) (hds:E.ds= []) (hN:E.N=14)
 (hst:St E (d9 ((a1 B).view s)) cF { tmps:=vs.toArray++Array.replicate (Tryz.f11.ntmps -vs.toArray.size) undef,defers:= [] } w)
 (hQ: ∀H r,FrzTo H r (Wm (Y:=Qry) (Z:=Int) (W:=Int) (vX,f.1,f.2))→Q r H)
 (hfin: ∀ (a':Act) (w':World) (σ':Sg) (H':ab) (dl:List Deferred),St { E with ds:=dl } σ' H' a' w'→(ln Yf σ' H' fun ds=> Q (cR ds) H')→ ∃v,(results Tryz.f11 a'.tmps).run Tryz.prog w'= .ok v w'∧R (.returned v) w'):Calls Tryz.prog 11 vs.toArray w R:=by
 have hmf: ∀ (fn:Fn) (first cap:Array Value) (w:World),(Instr.makeFunc fn first cap).run Tryz.prog w= .ok (.func fn first cap) w:=fun _ _ _ _=> rfl
 have hV:=qcg (S:=fun _=> .none) s hsz
 refine calls_of_wp_defers Tryz.func11 rfl ?_
 apply wp_seq
 refine wp_mono (ij (E:=E) (im:= []) (fun _=> l7 _ _) ay Jc _ (by rw[hN];exact Vb) _ _ _ _ _ hst hV) ?_
 intro e a1 w1 hP
 cases e with
 | normal=> ?_
 | ret=> obtain⟨_,_,_,h⟩:=hP;exact h.elim
 | exit i=> obtain⟨_,_,_,h⟩:=hP;exact h.elim
 | _=> exact hP.elim
 obtain⟨σ1,H1,hst1,hV1⟩:=hP
 apply wp_seq
 refine wp_mono (ij (E:=E) (im:= []) (fun _=> l7 _ _) ay Jb _ (by rw[hN];exact Va) _ _ _ _ _ hst1 hV1) ?_
 intro e a2 w2 hP
 cases e with
 | normal=> ?_
 | ret=> obtain⟨_,_,_,h⟩:=hP;exact h.elim
 | exit i=> obtain⟨_,_,_,h⟩:=hP;exact h.elim
 | _=> exact hP.elim
 obtain⟨σ2,H2,hst2,b2,b3,b4,⟨s2,s3,s4⟩,hV2⟩:=hP
 apply wp_seq
 have hsz2:a2.tmps.size=14:=by rw[hst2.2.1,hN]
 have hde:a2.defers= []:=by rw[hst2.1,hds]
 refine wp_region_list ?_
 refine wpList_plain rfl fun K hK=> ?_
 simp[go_sem,hmf]
 refine hK _ _ ?_
 refine wpList_plain rfl fun K hK=> ?_
 simp[go_sem,hsz2]
 refine hK _ _ ?_
 refine wpList_nil ?_
 have hst3:=St.defer hst2 (Value.func (Fn.func 27) #[] #[a2.tmps[2],a2.tmps[3],a2.tmps[4]]) ({ target:=Target.fn (Fn.func 27) #[a2.tmps[2],a2.tmps[3],a2.tmps[4]],args:= #[] } ::a2.defers) (by rw[hN];decide)
 apply wp_seq
 refine wp_region_list ?_
 clear hK
 have gt: ∀ (t:Nat) (h:t < a2.tmps.size),a2.tmps.getD t undef=a2.tmps[t]:=fun t h=> by simp[Array.getD,h]
 obtain⟨_,_,tp2,hw2,hr2⟩:=hst2
 have p2:a2.tmps[2]=M2 b2:=by rw[←gt];exact Cq (s2 ▸hr2 2)
 have p3:a2.tmps[3]=M2 b3:=by rw[←gt];exact Cq (s3 ▸hr2 3)
 have p4:a2.tmps[4]=M2 b4:=by rw[←gt];exact Cq (s4 ▸hr2 4)
 refine Kb 3 ?_
 refine Ye (z:=JC) (E:= { E with ds:= { target:=Target.fn (Fn.func 27) #[a2.tmps[2],a2.tmps[3],a2.tmps[4]],args:= #[] } ::a2.defers }) (im:= []) (S:=fun _=> .none) (K:=KP s b2 b3 b4) (fun c a w' _ h=> h.1.elim) ?_ qi2 (fun x hx=> CJ (fun _=> l7 _ _) x) _ (by show List.mapM (dE _ _ E.N _) _=_;rw[hN];kernel_rfl) _ _ _ _ hst3 hV2
 intro σ H a w' hs hk
 have hs0:=hs
 obtain⟨hd,hn,tp,hw,hr⟩:=hs
 obtain⟨b12,hb,hce,hc⟩:=WH hq hF (E:=E) ⟨hw.1,hw.2,hw.3,hw.4,hw.5,hw.6,hw.7⟩ hr hk
 change wpList Tryz.prog _ _ ({ dst := some 13, op := Op.call { callee := Callee.value (Operand.func 28), args := #[Operand.tmp 12], argTypes := #[65] }, type := 38, pos := "text.go:522", after := #[{ on := 2, ground := Ground.data }], guard := none } :: _) a w'
 unfold wpList
 rw[if_pos (show Region.wanted _ _=true from rfl)]
 refine .inl ?_
 unfold Oper.wp
 have hrun : (execOp a.eval { dst := some 13, op := Op.call { callee := Callee.value (Operand.func 28), args := #[Operand.tmp 12], argTypes := #[65] }, type := 38, pos := "text.go:522", after := #[{ on := 2, ground := Ground.data }], guard := none }).run Tryz.prog w' = .ok (.enter 28 #[M2 b12]) w' := by
  have hce': (callFunc 28 #[M2 b12]).run Tryz.prog w'= .ok (.enter 28 #[M2 b12]) w':=hce _ w'
  simp[execOp,resolve,Act.eval,Deferred.ofValue,invoke,hb,hce']
 rw[hrun]
 simp only[Oper.upon]
 refine Calls.mono hc ?_
 rintro e w'' ⟨rfl,hst''⟩
 show Leaves Tryz.prog Tryz.f11 a.tmps R a.defers (.panicking [{ v:=so aB f,recovered:=false }]) w''
 have hd':a.defers= { target:=Target.fn (Fn.func 27) #[a2.tmps[2],a2.tmps[3],a2.tmps[4]],args:= #[] } ::a2.defers:=hd
 rw[hd',hde,p2,p3,p4]
 refine leaves_cons (f:=27) (args:= #[M2 b2,M2 b3,M2 b4]) (by simp) (by simp[go_sem]) ?_
 refine(NM E f b2 b3 b4 _ _ _ (by simp[zeroQ]) w'' hst'').mono ?_
 rintro e u' w3 ⟨rfl,rfl,tp3,H3',hw3,k2,k3,k4⟩
 show Leaves Tryz.prog Tryz.f11 a.tmps R [] .returning w3
 have q2:=hr 2
 have q3:=hr 3
 have q4:=hr 4
 rw[hk.1] at q2
 rw[hk.2.1] at q3
 rw[hk.2.2.1] at q4
 obtain⟨v,h1,h2⟩:=hfin a w3 (fun t=> if t=2 then .bptr 100 b2 0 else if t=3 then .bptr 101 b3 0 else if t=4 then .bptr 102 b4 0 else .any) H3' a.defers ⟨rfl,hn,tp3,⟨hw3.1,hw3.2,hw3.3,hw3.4,hw3.5,hw3.6,hw3.7⟩,fun t=> by
  dsimp only
  split
  ·rename_i e;subst e;rw[Cq q2];exact .bptr _ _ _
  ·split
   ·rename_i e;subst e;rw[Cq q3];exact .bptr _ _ _
   ·split
    ·rename_i e;subst e;rw[Cq q4];exact .bptr _ _ _
    ·exact .any _⟩ (by
  simp[Yf,ln,aM,ev,k2,k3,k4,zeroQ,IV,cR]
  refine hQ _ _ (.tup rfl fun k x y hx hy=> ?_)
  rcases k with _ | _ | _ | k
  ·cases hx
   cases hy
   rw[Bt]
   exact ox (by simp[vX,Cond0,E0])
  ·cases hx;cases hy;exact .same _
  ·cases hx;cases hy;exact .same _
  ·simp at hx)
 exact⟨v,h1,h2⟩
end Go.Gv

namespace Go.Gv
open Cod (enc dec)
open Go.Proofs
theorem Q4 {H:ab} {r:D} {q:Qry} {a b:Int} (h:FrzTo H r (enc q)):FrzTo H (.tup [r, .v (.int .i64 a), .v (.int .i64 b)]) (Wm (Y:=Qry) (Z:=Int) (W:=Int) (q,a,b)):=by
 refine .tup rfl fun k x y hx hy=> ?_
 rcases k with _ | _ | _ | k
 ·cases hx;cases hy;exact h
 ·cases hx;cases hy;exact .same _
 ·cases hx;cases hy;exact .same _
 ·simp at hx
theorem ZU {S:Nat→Spc} (s:B) (hs:400 < s.size) (Q:D→ab→Prop) (hQ: ∀H r,FrzTo H r (Wm (Y:=Qry) (Z:=Int) (W:=Int) (vX,0,2))→Q r H):vc S Jc (Vi fun σ H=> vc S Jb (fun e σ H=> match e with | .ret=> ln Yf σ H fun ds=> Q (cR ds) H | _=> False) σ H) (d9 ((a1 B).view s)) cF:=by
 have hsz': (400:Int) < s.size:=by omega
 simp[Jc,Jb,Yf,Vi,hsz']
 exact fun b b1 b2 _=> hQ _ _ (Q4 (by rw[Bt];exact ox (by simp[vX,Cond0,E0])))
theorem Tk {s:B} (hsz:400 < s.size) (E:pR) (Q:D→ab→Prop) (vs:List Value) (w:World) (R:Ending→World→Prop) (hds:E.ds= []) (hN:E.N=14)
 (hst:St E (d9 ((a1 B).view s)) cF { tmps:=vs.toArray++Array.replicate (Tryz.f11.ntmps -vs.toArray.size) undef,defers:= [] } w)
 (hQ: ∀H r,FrzTo H r (Wm (Y:=Qry) (Z:=Int) (W:=Int) (vX,0,2))→Q r H)
 (hfin: ∀ (a':Act) (w':World) (σ':Sg) (H':ab) (dl:List Deferred),St { E with ds:=dl } σ' H' a' w'→(ln Yf σ' H' fun ds=> Q (cR ds) H')→ ∃v,(results Tryz.f11 a'.tmps).run Tryz.prog w'= .ok v w'∧R (.returned v) w'):Calls Tryz.prog 11 vs.toArray w R:=by
 have hV:=ZU (S:=fun _=> .none) s hsz Q hQ
 refine calls_of_wp_defers Tryz.func11 rfl ?_
 apply wp_seq
 refine wp_mono (ij (E:=E) (im:= []) (fun _=> l7 _ _) ay Jc _ (by rw[hN];exact Vb) _ _ _ _ _ hst hV) ?_
 intro e a1 w1 hP
 cases e with
 | normal=> ?_
 | ret=> obtain⟨_,_,_,h⟩:=hP;exact h.elim
 | exit i=> obtain⟨_,_,_,h⟩:=hP;exact h.elim
 | _=> exact hP.elim
 obtain⟨σ1,H1,hst1,hV1⟩:=hP
 apply wp_seq
 refine wp_mono (ij (E:=E) (im:= []) (fun _=> l7 _ _) ay Jb _ (by rw[hN];exact Va) _ _ _ _ _ hst1 hV1) ?_
 intro e a2 w2 hP
 cases e with
 | ret=> ?_
 | normal=> obtain⟨_,_,_,h⟩:=hP;exact h.elim
 | exit i=> obtain⟨_,_,_,h⟩:=hP;exact h.elim
 | _=> exact hP.elim
 obtain⟨σ2,H2,hst2,hV2⟩:=hP
 show Leaves Tryz.prog Tryz.f11 a2.tmps R a2.defers .returning w2
 have hd:a2.defers= []:=by rw[hst2.1,hds]
 rw[hd]
 exact hfin a2 w2 σ2 H2 E.ds hst2 hV2
theorem qf6 {S:Nat→Spc} {g:Int×Int} (h:S bB=sP g 500) {s:B} {r:Rdr×Qry} (hsz: ¬400 < s.size) (hF:queryE 500 ⟨s,0,0,E0,0⟩= .ok r) (Q:D→ab→Prop) (hQ: ∀H d,FrzTo H d (Wm (Y:=Qry) (Z:=Int) (W:=Int) (r.2,0,0))→Q d H):VP S Q ((a1 B).view s) cF:=by
 have hsz': ¬ (400:Int) < s.size:=by omega
 have hF':queryE 500 { txt:=s,fin:=0,kind:=0,text:= { data:= #[] },pos:=0 } = .ok r:=hF
 simp[VP,Jc,Jb,Y2,Yf,Vi,hsz',h,hF']
 exact fun b b1 b2 _ b3=> hQ _ _ (Q4 (by rw[Bt];exact ox (by simp)))
abbrev s_eParse:Spc:=dG (a1 B) (fun s=> ∃r,tZ s=some r) (Wm (Y:=Qry) (Z:=Int) (W:=Int)) fun s y=> tZ s=some y
theorem FK (hq: ∀f,TriZ (zF aB f) Tryz.prog bB (sP f 500).pt):Tri Tryz.prog ep s_eParse.pt:=by
 refine X5 (V:=fun Q ds' H0=> ∃s r,ds'=(a1 B).view s∧H0=cF∧tZ s=some r∧ ∀H d,FrzTo H d (Wm (Y:=Qry) (Z:=Int) (W:=Int) r)→Q d H) NO (N:=14) rfl qcJ (fun x=> by simp) ?_ ?_
 ·rintro E ds' H0 Q vs w R hds hN _ hst ⟨s,r,rfl,rfl,hr,hQ⟩ hfin
  rw[tZ] at hr
  split at hr
  ·rename_i hsz
   cases hr
   exact Tk hsz E Q vs w R hds hN hst hQ hfin
  ·rename_i hsz
   split at hr
   ·rename_i q hF
    cases hr
    exact Pl (S:=bU [(bB,sP (0,0) 500)]) (aw (aa (RX (hq (0,0))) aj)) E _ _ Q vs w R hds hN hst (qf6 (g:=(0,0)) rfl hsz hF Q hQ) hfin
   ·rename_i g hF
    cases hr
    exact WK hsz (hq g) hF E Q vs w R hds hN hst hQ hfin
   ·cases hr
 ·rintro s ⟨r,hr⟩
  exact⟨s,r,rfl,rfl,hr,fun H d hd=> ⟨r,hd,hr⟩⟩
end Go.Gv

namespace Go.Gv
open Go.Proofs Cod
theorem K6 {z:List PanicEntry→Prop} {P:Program} {g:Nat} {Y Z:Type} {A:ix Z} {er:Y→D} {f:Int×Int} {F:Rdr→Z→Out (Rdr×Y)} (hx: ∀s z,F s z= .no):TriZ z P g (AE A er f F).pt:=fun O tp w vs ds H d K _ _ _ _ _ ⟨id,b,x,z,ds',h1,h2,h3,h4,h5,hp,h7⟩=> by
 have hp: (F x z).fine f:=hp
 rw[hx] at hp
 exact hp.elim
theorem tC:Tri Tryz.prog dM s_trimLeftByte.pt:=ax (S:=bU []) (aw aj) sY (fun _=> Nat.le_of_ble_eq_true rfl) tz
theorem yH:Tri Tryz.prog fL s_trimLeft.pt:=ax (S:=bU [(dM,s_trimLeftByte)]) (aw (aa tC aj)) xN (fun _=> Nat.le_of_ble_eq_true rfl) (yE rfl)
theorem yp:Tri Tryz.prog fp s_globs.pt:=ax (S:=bU []) (aw aj) GJ (fun _=> Nat.le_of_ble_eq_true rfl) XM
theorem BR:Tri Tryz.prog gP s_function.pt:=ax (S:=bU []) (aw aj) AX (fun _=> Nat.le_of_ble_eq_true rfl) BO
theorem uV:Tri Tryz.prog cx s_qstrats.pt:=ax (S:=bU []) (aw aj) t5 (fun _=> Nat.le_of_ble_eq_true rfl) RC
theorem jm (f:Int×Int):TriZ (zF aB f) Tryz.prog bc (qa f).pt:=
 bH (S:=bU [(dw,B5 f)]) (iQ (OR (La aB f) fH)) u6 (fun _=> Nat.le_of_ble_eq_true rfl) rfl (by intro g hg;cases hg) (RM rfl)
theorem bZ (f:Int×Int):TriZ (zF aB f) Tryz.prog ak (eZ f).pt:=
 bH (S:=bU [(ae,bN),(bc,qa f)]) (iQ (aG (Tri.z aX) rfl (aG (jm f) rfl fH))) wj (fun _=> Nat.le_of_ble_eq_true rfl) rfl (by intro g hg;cases hg) (TT rfl rfl)
theorem dX (f:Int×Int):TriZ (zF aB f) Tryz.prog aJ (jK f).pt:=
 bH (S:=bU [(a5,pI),(bc,qa f)]) (iQ (aG (Tri.z gH) rfl (aG (jm f) rfl fH))) wb (fun _=> Nat.le_of_ble_eq_true rfl) rfl (by intro g hg;cases hg) (TR rfl rfl)
theorem eY (f:Int×Int):TriZ (zF aB f) Tryz.prog az (mg f).pt:=
 bH (S:=bU [(aJ,jK f)]) (iQ (aG (dX f) rfl fH)) wi (fun _=> Nat.le_of_ble_eq_true rfl) rfl (by intro g hg;cases hg) (TS rfl)
theorem w6 (f:Int×Int):TriZ (zF aB f) Tryz.prog dC (F7 f).pt:=
 bH (S:=bU [(ak,eZ f),(az,mg f)]) (iQ (aG (bZ f) rfl (aG (eY f) rfl fH))) va (fun _=> Nat.le_of_ble_eq_true rfl) rfl (by intro g hg;cases hg) (RQ rfl rfl)
theorem nf (f:Int×Int):TriZ (zF aB f) Tryz.prog bM (sQ f).pt:=
 bH (S:=bU [(dw,B5 f),(aJ,jK f),(fL,s_trimLeft)]) (iQ (OR (La aB f) (aG (dX f) rfl (aG (Tri.z yH) rfl fH)))) t8 (fun _=> Nat.le_of_ble_eq_true rfl) rfl (by intro g hg;cases hg) (OO rfl rfl rfl)
theorem qG (f:Int×Int):TriZ (zF aB f) Tryz.prog bT (F8 f).pt:=
 bH (S:=bU [(bM,sQ f)]) (iQ (aG (nf f) rfl fH)) xV (fun _=> Nat.le_of_ble_eq_true rfl) rfl (by intro g hg;cases hg) (XX rfl)
theorem vq (f:Int×Int):TriZ (zF aB f) Tryz.prog de (Cg f).pt:=
 bH (S:=bU [(ae,bN),(bT,F8 f)]) (iQ (aG (Tri.z aX) rfl (aG (qG f) rfl fH))) t6 (fun _=> Nat.le_of_ble_eq_true rfl) rfl (by intro g hg;cases hg) (ON rfl rfl)
theorem yn (f:Int×Int):TriZ (zF aB f) Tryz.prog eX (KZ f).pt:=
 bH (S:=bU [(ae,bN),(az,mg f),(ak,eZ f),(aJ,jK f),(bf,tH),(a5,pI),(bp,tI)]) (iQ (aG (Tri.z aX) rfl (aG (eY f) rfl (aG (bZ f) rfl (aG (dX f) rfl (aG (Tri.z j5) rfl (aG (Tri.z gH) rfl (aG (Tri.z j6) rfl fH)))))))) wo (fun _=> Nat.le_of_ble_eq_true rfl) rfl (by intro g hg;cases hg) (TX rfl rfl rfl rfl rfl rfl rfl)
theorem qdl {f:Int×Int} {N:Rdr→Out (Rdr×Cond)} (h:TriZ (zF aB f) Tryz.prog bK (za f N).pt):TriZ (zF aB f) Tryz.prog eh (Ph f N).pt:=
 bH (S:=bU [(ae,bN),(bK,za f N),(fq,Ay)]) (iQ (aG (Tri.z aX) rfl (aG h rfl (aG (Tri.z yr) rfl fH)))) xW (fun _=> Nat.le_of_ble_eq_true rfl) rfl (by intro g hg;cases hg) (XY N rfl rfl rfl)
theorem qdj {f:Int×Int} {N:Rdr→Out (Rdr×Cond)} (h:TriZ (zF aB f) Tryz.prog bK (za f N).pt):TriZ (zF aB f) Tryz.prog cY (QG f N).pt:=
 bH (S:=bU [(ae,bN),(eh,Ph f N),(fq,Ay)]) (iQ (aG (Tri.z aX) rfl (aG (qdl h) rfl (aG (Tri.z yr) rfl fH)))) zu (fun _=> Nat.le_of_ble_eq_true rfl) rfl (by intro g hg;cases hg) (ZT N rfl rfl rfl)
theorem Wp (f:Int×Int): ∀n,TriZ (zF aB f) Tryz.prog bK (za f (kK n)).pt
 | 0=> K6 fun _ _=> rfl
 | n+1=> bH (S:=bU [(ae,bN),(bK,za f (kK n)),(ak,eZ f),(cY,QG f (kK n)),(eX,KZ f)]) (iQ (aG (Tri.z aX) rfl (aG (Wp f n) rfl (aG (bZ f) rfl (aG (qdj (Wp f n)) rfl (aG (yn f) rfl fH)))))) xT (fun _=> Nat.le_of_ble_eq_true rfl) rfl (by intro g hg;cases hg) (XV (kK n) rfl rfl rfl rfl rfl)
theorem ZA (f:Int×Int): ∀n,TriZ (zF aB f) Tryz.prog cL (F9 f (rQ n)).pt
 | 0=> K6 fun _ _=> rfl
 | n+1=>
   have h0:TriZ (zF aB f) Tryz.prog dB (F4 f (orE (kK (n+1)))).pt:=bH (S:=bU [(ae,bN),(aQ,me),(ak,eZ f),(cY,QG f (kK (n+1))),(aJ,jK f),(bp,tI)]) (iQ (aG (Tri.z aX) rfl (aG (Tri.z eP) rfl (aG (bZ f) rfl (aG (qdj (Wp f (n+1))) rfl (aG (dX f) rfl (aG (Tri.z j6) rfl fH))))))) u7 (fun _=> Nat.le_of_ble_eq_true rfl) rfl (by intro g hg;cases hg) (RN _ rfl rfl rfl rfl rfl rfl)
   have h1:TriZ (zF aB f) Tryz.prog eW (KX f (rQ n) (orE (kK (n+1)))).pt:=bH (S:=bU [(ae,bN),(az,mg f),(ak,eZ f),(dB,F4 f (orE (kK (n+1)))),(cL,F9 f (rQ n))]) (iQ (aG (Tri.z aX) rfl (aG (eY f) rfl (aG (bZ f) rfl (aG h0 rfl (aG (ZA f n) rfl fH)))))) wk (fun _=> Nat.le_of_ble_eq_true rfl) rfl (by intro g hg;cases hg) (TU _ _ rfl rfl rfl rfl rfl)
   have h2:TriZ (zF aB f) Tryz.prog eg (Pg f (rQ n) (orE (kK (n+1)))).pt:=bH (S:=bU [(dw,B5 f),(ae,bN),(eW,KX f (rQ n) (orE (kK (n+1)))),(bM,sQ f),(ak,eZ f),(aQ,me)]) (iQ (OR (La aB f) (aG (Tri.z aX) rfl (aG h1 rfl (aG (nf f) rfl (aG (bZ f) rfl (aG (Tri.z eP) rfl fH))))))) xS (fun _=> Nat.le_of_ble_eq_true rfl) rfl (by intro g hg;cases hg) (XU _ _ rfl rfl rfl rfl rfl rfl)
   have h3:TriZ (zF aB f) Tryz.prog ef (Pf f (rQ n) (orE (kK (n+1)))).pt:=bH (S:=bU [(ea,B3),(eg,Pg f (rQ n) (orE (kK (n+1)))),(dD,pZ)]) (iQ (aG (Tri.z uW) rfl (aG h2 rfl (aG (Tri.z sE) rfl fH)))) xR (fun _=> Nat.le_of_ble_eq_true rfl) rfl (by intro g hg;cases hg) (XT _ _ rfl rfl rfl)
   bH (S:=bU [(ae,bN),(ef,Pf f (rQ n) (orE (kK (n+1)))),(dD,pZ)]) (iQ (aG (Tri.z aX) rfl (aG h3 rfl (aG (Tri.z sE) rfl fH)))) xX (fun _=> Nat.le_of_ble_eq_true rfl) rfl (by intro g hg;cases hg) (XZ _ _ rfl rfl rfl)
theorem sq (f:Int×Int):TriZ (zF aB f) Tryz.prog dj (K0 f).pt:=
 bH (S:=bU [(ae,bN),(ak,eZ f),(aJ,jK f),(dC,F7 f),(bT,F8 f),(de,Cg f)]) (iQ (aG (Tri.z aX) rfl (aG (bZ f) rfl (aG (dX f) rfl (aG (w6 f) rfl (aG (qG f) rfl (aG (vq f) rfl fH))))))) rr (fun _=> Nat.le_of_ble_eq_true rfl) rfl (by intro g hg;cases hg) (ID rfl rfl rfl rfl rfl rfl)
theorem w4 (f:Int×Int):TriZ (zF aB f) Tryz.prog eC (F6 f).pt:=
 bH (S:=bU [(ae,bN),(az,mg f),(ak,eZ f),(aJ,jK f),(bp,tI),(gP,s_function),(dj,K0 f)]) (iQ (aG (Tri.z aX) rfl (aG (eY f) rfl (aG (bZ f) rfl (aG (dX f) rfl (aG (Tri.z j6) rfl (aG (Tri.z BR) rfl (aG (sq f) rfl fH)))))))) u9 (fun _=> Nat.le_of_ble_eq_true rfl) rfl (by intro g hg;cases hg) (RP rfl rfl rfl rfl rfl rfl rfl)
theorem qaZ {f:Int×Int} {N:Rdr→Out (Rdr×Glob)} (h:TriZ (zF aB f) Tryz.prog bw (tN f N).pt):TriZ (zF aB f) Tryz.prog dV (KY f N).pt:=
 bH (S:=bU [(ae,bN),(bw,tN f N),(fp,s_globs)]) (iQ (aG (Tri.z aX) rfl (aG h rfl (aG (Tri.z yp) rfl fH)))) wm (fun _=> Nat.le_of_ble_eq_true rfl) rfl (by intro g hg;cases hg) (TW N rfl rfl rfl)
theorem Zz {f:Int×Int} {N:Rdr→Out (Rdr×Glob)} (h:TriZ (zF aB f) Tryz.prog bw (tN f N).pt):TriZ (zF aB f) Tryz.prog cK (F5 f N).pt:=
 bH (S:=bU [(ae,bN),(dV,KY f N),(fp,s_globs)]) (iQ (aG (Tri.z aX) rfl (aG (qaZ h) rfl (aG (Tri.z yp) rfl fH)))) xU (fun _=> Nat.le_of_ble_eq_true rfl) rfl (by intro g hg;cases hg) (XW N rfl rfl rfl)
theorem P1 (f:Int×Int): ∀n,TriZ (zF aB f) Tryz.prog bw (tN f (nG n)).pt
 | 0=> K6 fun _ _=> rfl
 | n+1=> bH (S:=bU [(ae,bN),(bw,tN f (nG n)),(ak,eZ f),(cK,F5 f (nG n)),(eC,F6 f)]) (iQ (aG (Tri.z aX) rfl (aG (P1 f n) rfl (aG (bZ f) rfl (aG (Zz (P1 f n)) rfl (aG (w4 f) rfl fH)))))) wl (fun _=> Nat.le_of_ble_eq_true rfl) rfl (by intro g hg;cases hg) (TV (nG n) rfl rfl rfl rfl rfl)
theorem wZ (f:Int×Int):TriZ (zF aB f) Tryz.prog bB (sP f 500).pt:=
 bH (S:=bU [(a5,pI),(cL,F9 f (rQ 500)),(ae,bN),(aQ,me),(bf,tH),(cw,od),(cK,F5 f (nG 500)),(bL,mf),(bc,qa f),(az,mg f),(cx,s_qstrats)]) (iQ (aG (Tri.z gH) rfl (aG (ZA f 500) rfl (aG (Tri.z aX) rfl (aG (Tri.z eP) rfl (aG (Tri.z j5) rfl (aG (Tri.z pD) rfl (aG (Zz (P1 f 500)) rfl (aG (Tri.z nb) rfl (aG (jm f) rfl (aG (eY f) rfl (aG (Tri.z uV) rfl fH)))))))))))) t7 (fun _=> Nat.le_of_ble_eq_true rfl) rfl (by intro g hg;have hg:g∈ [cw]:=hg;simp at hg;subst hg;exact⟨by decide,pD⟩) (RO 500 rfl rfl rfl rfl rfl rfl rfl rfl rfl rfl rfl)
theorem vC:Tri Tryz.prog ep s_eParse.pt:=FK wZ
end Go.Gv
