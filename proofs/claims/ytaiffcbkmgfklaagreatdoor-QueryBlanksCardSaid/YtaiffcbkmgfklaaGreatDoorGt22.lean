/- A part of the framework and of the walks: V6 W43 V7 V8 V12 V13. -/
import Derived.Test.YtaiffcbkmgfklaaGreatDoorGt19
import Derived.Test.YtaiffcbkmgfklaaGreatDoorGt21
set_option linter.unusedSimpArgs false
set_option linter.unusedVariables false
set_option maxRecDepth 100000

namespace Go.Gv
open Cod (enc dec)
structure Glob where
 op:Int
 a:B
 b:B
 name:B
 arg:B
 val:B
 fold:Bool
 mn:Int
 mx:Int
 args:List B
 kids:List Glob
mutual
def EG:Glob→D
 | .mk p0 p1 p2 p3 p4 p5 p6 p7 p8 p9 ks=> .agg [enc p0,enc p1,enc p2,enc p3,enc p4,enc p5,enc p6,enc p7,enc p8,enc p9, .list 11 (sD ks)]
def sD:List Glob→List D
 | []=> []
 | k::ks=> EG k::sD ks
end
mutual
def KY:D→Option Glob
 | .agg [x0,x1,x2,x3,x4,x5,x6,x7,x8,x9,x10]=> (dec x0).bind fun p0=> (dec x1).bind fun p1=> (dec x2).bind fun p2=> (dec x3).bind fun p3=> (dec x4).bind fun p4=> (dec x5).bind fun p5=> (dec x6).bind fun p6=> (dec x7).bind fun p7=> (dec x8).bind fun p8=> (dec x9).bind fun p9=> (AX x10).bind fun ks=> some (.mk p0 p1 p2 p3 p4 p5 p6 p7 p8 p9 ks)
 | _=> none
def AX:D→Option (List Glob)
 | .list n es=> if n=11 then uT es else none
 | .v (.slice none 0 0)=> some []
 | _=> none
def uT:List D→Option (List Glob)
 | []=> some []
 | d::ds=> (KY d).bind fun x=> (uT ds).bind fun xs=> some (x::xs)
end
theorem Ao: ∀l:List Glob,sD l=l.map EG
 | []=> rfl
 | _::l=> by rw[sD,Ao l];rfl
theorem NQ: ∀c:Glob,(EG c).kn=true
 | .mk .. => rfl
theorem KN: ∀c:Glob,(EG c).cells.length=11
 | .mk .. => rfl
mutual
theorem KX: ∀c:Glob,KY (EG c)=some c
 | .mk p0 p1 p2 p3 p4 p5 p6 p7 p8 p9 ks=> by
   have h:AX (.list 11 (sD ks))=some ks:=by rw[AX,if_pos rfl];exact G8 ks
   simp only[EG,KY,Cod.dec_enc,Option.bind_some,h]
theorem G8: ∀l:List Glob,uT (sD l)=some l
 | []=> by simp only[sD,uT]
 | c::l=> by simp only[sD,uT,KX c,G8 l,Option.bind_some]
end
mutual
theorem NW: ∀ (d:D) (c:Glob),KY d=some c→FrzTo cu d (EG c)
 | .agg [x0,x1,x2,x3,x4,x5,x6,x7,x8,x9,x10],c,h=> by
   simp only[KY,Option.bind_eq_some_iff,Option.some.injEq] at h
   obtain⟨p0,h0,p1,h1,p2,h2,p3,h3,p4,h4,p5,h5,p6,h6,p7,h7,p8,h8,p9,h9,ks,hk,rfl⟩:=h
   rw[EG]
   exact LeL.agg (.cons (Cod.le _ _ h0) (.cons (Cod.le _ _ h1) (.cons (Cod.le _ _ h2) (.cons (Cod.le _ _ h3) (.cons (Cod.le _ _ h4) (.cons (Cod.le _ _ h5) (.cons (Cod.le _ _ h6) (.cons (Cod.le _ _ h7) (.cons (Cod.le _ _ h8) (.cons (Cod.le _ _ h9) ((.cons (SF x10 ks hk) .nil))))))))))))
theorem SF: ∀ (d:D) (l:List Glob),AX d=some l→FrzTo cu d (.list 11 (sD l))
 | .list n es,l,h=> by
   simp only[AX] at h
   split at h
   ·rename_i hn
    subst hn
    have hl:=KW es l h
    refine .list hl.1 (fun e he=> ?_) hl.2
    rw[Ao] at he
    obtain⟨x,hx,rfl⟩:=List.mem_map.1 he
    exact⟨NQ x,KN x⟩
   ·cases h
 | .v (.slice none 0 0),l,h=> by
   simp only[AX,Option.some.injEq] at h
   subst h
   exact .nil _
theorem KW: ∀ (es:List D) (l:List Glob),uT es=some l→LeL es (sD l)
 | [],l,h=> by
   simp only[uT,Option.some.injEq] at h
   subst h
   exact .nil
 | d::ds,l,h=> by
   simp only[uT,Option.bind_eq_some_iff,Option.some.injEq] at h
   obtain⟨x,h1,xs,h2,rfl⟩:=h
   rw[sD]
   exact .cons (NW d x h1) (KW ds xs h2)
end
instance:Cod Glob where
 wd:=11
 enc:=EG
 dec:=KY
 kn:=NQ
 wid:=KN
 dec_enc:=KX
 le:=NW
theorem PI (ks:List Glob):D.list 11 (sD ks)=enc ks:=by rw[Ao];rfl
theorem EL: ∀es:List D,uT es=es.mapM (dec (X:=Glob))
 | []=> by simp[uT]
 | d::es=> by
   rw[uT,List.mapM_cons,EL es]
   rfl
theorem SG: ∀d:D,AX d=dec (X:=List Glob) d:=fun d=> by
 unfold AX
 split
 ·rename_i n es
  show _=if n=11 then es.mapM (dec (X:=Glob)) else none
  rw[EL]
 ·rfl
 ·rename_i h1 h2
  show _=(match d with
   | .list n es=> if n=11 then es.mapM (dec (X:=Glob)) else none
   | .v (.slice none 0 0)=> some []
   | _=> none)
  split
  ·exact absurd rfl (h1 _ _)
  ·exact absurd rfl h2
  ·rfl
@[simp] theorem ZA (s:Glob):Glob.mk s.op s.a s.b s.name s.arg s.val s.fold s.mn s.mx s.args s.kids=s:=by cases s;rfl
@[simp] theorem yD (s:Glob):enc s= .agg [enc s.op,enc s.a,enc s.b,enc s.name,enc s.arg,enc s.val,enc s.fold,enc s.mn,enc s.mx,enc s.args,enc s.kids]:=by
 rw[←PI]
 cases s
 show EG _=_
 rw[EG]
@[simp] theorem qap:Cod.wd Glob=11:=id rfl
@[simp] theorem ZG (x0 x1 x2 x3 x4 x5 x6 x7 x8 x9 x10:D):dec (X:=Glob) (.agg [x0,x1,x2,x3,x4,x5,x6,x7,x8,x9,x10])=((dec x0).bind fun x0=> (dec x1).bind fun x1=> (dec x2).bind fun x2=> (dec x3).bind fun x3=> (dec x4).bind fun x4=> (dec x5).bind fun x5=> (dec x6).bind fun x6=> (dec x7).bind fun x7=> (dec x8).bind fun x8=> (dec x9).bind fun x9=> (dec x10).bind fun x10=> some ⟨x0,x1,x2,x3,x4,x5,x6,x7,x8,x9,x10⟩):=by
 show KY _=_
 simp only[KY,SG]
structure jK where
 op:Int
 neg:Bool
 reg:B
instance:Cod jK where
 wd:=3
 enc f:= .agg [enc f.op,enc f.neg,enc f.reg]
 dec | .agg [x0,x1,x2]=> (dec x0).bind fun a=> (dec x1).bind fun b=> (dec x2).bind fun c=> some ⟨a,b,c⟩ | _=> none
 kn _:=rfl
 wid _:=rfl
 dec_enc f:=by simp only[Cod.dec_enc,Option.bind_some]
 le d x h:=by
  split at h
  ·simp only[Option.bind_eq_some_iff,Option.some.injEq] at h
   obtain⟨a,h0,b,h1,c,h2,rfl⟩:=h
   exact LeL.agg (.cons (Cod.le _ _ h0) (.cons (Cod.le _ _ h1) (.cons (Cod.le _ _ h2) .nil)))
  ·cases h
@[simp] theorem ZC (s:jK):enc s= .agg [enc s.op,enc s.neg,enc s.reg]:=id rfl
@[simp] theorem qaq:Cod.wd jK=3:=id rfl
structure Qry where
 pat:Pat
 glob:Glob
 filts:List jK
 strat:Int
def As:Pat→List D | .mk op c l r mn mx ks=> enc op:: (uX c++ [enc l,enc r,enc mn,enc mx,enc ks])
theorem PR: ∀p:Pat,D.agg (As p)=enc p
 | .mk .. => (IS ..).symm
theorem MR: ∀p:Pat,(As p).length=13
 | .mk op c l r mn mx ks=> by simp[As,EW]
def EV (g:Glob):List D:= [enc g.op,enc g.a,enc g.b,enc g.name,enc g.arg,enc g.val,enc g.fold,enc g.mn,enc g.mx,enc g.args,enc g.kids]
theorem PS (g:Glob):D.agg (EV g)=enc g:=(yD g).symm
theorem Tf {l l':List D} (h:FrzTo cu (.agg l) (.agg l')):LeL l l':=by
 cases h with
 | same=> exact⟨rfl,fun k x y hx hy=> by rw[hx] at hy;cases hy;exact .same _⟩
 | agg hl h=> exact⟨hl,h⟩
theorem SB {l:List D} {p:Pat} (h:dec (D.agg l)=some p):LeL l (As p):=Tf (by rw[PR];exact Cod.le _ _ h)
theorem PL {l:List D} {p:Glob} (h:dec (D.agg l)=some p):LeL l (EV p):=Tf (by rw[PS];exact Cod.le _ _ h)
def Xg (q:Qry):D:= .agg (As q.pat++ (EV q.glob++ [enc q.filts,enc q.strat]))
def Xp:D→Option Qry
 | .agg [x0,x1,x2,x3,x4,x5,x6,x7,x8,x9,x10,x11,x12,y0,y1,y2,y3,y4,y5,y6,y7,y8,y9,y10,f,s]=> (dec (D.agg [x0,x1,x2,x3,x4,x5,x6,x7,x8,x9,x10,x11,x12])).bind fun p=> (dec (D.agg [y0,y1,y2,y3,y4,y5,y6,y7,y8,y9,y10])).bind fun g=> (dec f).bind fun fs=> (dec s).bind fun st=> some ⟨p,g,fs,st⟩
 | _=> none
instance:Cod Qry where
 wd:=26
 enc:=Xg
 dec:=Xp
 kn _:=rfl
 wid q:=by simp[Xg,D.cells,MR,EV]
 dec_enc q:=by
  obtain⟨⟨op,⟨o,n,a,v,l,f,cks⟩,lb,rg,mn,mx,ks⟩,g,fs,st⟩:=q
  have h1:=Cod.dec_enc (⟨op,⟨o,n,a,v,l,f,cks⟩,lb,rg,mn,mx,ks⟩:Pat)
  have h2:=Cod.dec_enc g
  rw[IS] at h1
  rw[yD] at h2
  simp only[uX,List.cons_append,List.nil_append] at h1
  simp only[Xg,As,uX,EV,List.cons_append,List.nil_append,Xp,h1,h2,Cod.dec_enc,Option.bind_some]
 le d x h:=by
  unfold Xp at h
  split at h
  ·simp only[Option.bind_eq_some_iff,Option.some.injEq] at h
   obtain⟨p,h0,g,h1,fs,h2,st,h3,rfl⟩:=h
   exact LeL.agg ((SB h0).append ((PL h1).append (.cons (Cod.le _ _ h2) (.cons (Cod.le _ _ h3) .nil))))
  ·cases h
@[simp] theorem qbz (s:Qry):Qry.mk s.pat s.glob s.filts s.strat=s:=by cases s;rfl
@[simp] theorem yC (s:Qry):enc s= .agg [enc s.pat.op,enc s.pat.cond.op,enc s.pat.cond.name,enc s.pat.cond.arg,enc s.pat.cond.val,enc s.pat.cond.lab,enc s.pat.cond.fold,enc s.pat.cond.kids,enc s.pat.lab,enc s.pat.reg,enc s.pat.mn,enc s.pat.mx,enc s.pat.kids,enc s.glob.op,enc s.glob.a,enc s.glob.b,enc s.glob.name,enc s.glob.arg,enc s.glob.val,enc s.glob.fold,enc s.glob.mn,enc s.glob.mx,enc s.glob.args,enc s.glob.kids,enc s.filts,enc s.strat]:=by
 obtain⟨⟨op,⟨o,n,a,v,l,f,cks⟩,lb,rg,mn,mx,ks⟩,g,fs,st⟩:=s
 rfl
@[simp] theorem qbF (x0 x1 x2 x3 x4 x5 x6 x7 x8 x9 x10 x11 x12 y0 y1 y2 y3 y4 y5 y6 y7 y8 y9 y10 f s:D):dec (X:=Qry) (.agg [x0,x1,x2,x3,x4,x5,x6,x7,x8,x9,x10,x11,x12,y0,y1,y2,y3,y4,y5,y6,y7,y8,y9,y10,f,s])=((dec (D.agg [x0,x1,x2,x3,x4,x5,x6,x7,x8,x9,x10,x11,x12])).bind fun p=> (dec (D.agg [y0,y1,y2,y3,y4,y5,y6,y7,y8,y9,y10])).bind fun g=> (dec f).bind fun fs=> (dec s).bind fun st=> some ⟨p,g,fs,st⟩):=id rfl
end Go.Gv

namespace Go.Gv
open Cod (enc dec)
variable {S S0:Nat→Spc}
def Tq (n:Nat) (x:Cond×List B):Prop:=0 < n∧CS (n -1) x.1
def M5 (n:Nat) (x:Pat×List B):Prop:=0 < n∧PD (n -1) x.1
def VU (x:Pat) (l:List B):Prop:=l.length+vF x≤1000000
def Fc (n:Nat) (x:List Int×Int×List B):Prop:=x.2.1.toNat < n∧ -10≤x.2.1∧x.2.1≤100∧1≤x.2.2.length∧x.2.2.length≤1000000
theorem gH {q:Glob→Prop} {H:aa} {op mn mx:Int} {a b n g v:B} {f:Bool} {d e:D} (ar:List B) (ks:List Glob) (hd:FrzTo H d (enc ar)) (he:FrzTo H e (enc ks)) (hq:q ⟨op,a,b,n,g,v,f,mn,mx,ar,ks⟩):
 Fin enc q (.agg [.v (.int .i64 op), .v (.string a), .v (.string b), .v (.string n), .v (.string g), .v (.string v), .v (.bool f), .v (.int .i64 mn), .v (.int .i64 mx),d,e]) H:=by
 refine gq (⟨op,a,b,n,g,v,f,mn,mx,ar,ks⟩:Glob) ?_ hq
 rw[yD]
 refine .agg rfl fun k x y hx hy=> ?_
 rcases k with _ | _ | _ | _ | _ | _ | _ | _ | _ | _ | _ | k
 ·cases hx;cases hy;exact .same _
 ·cases hx;cases hy;exact .same _
 ·cases hx;cases hy;exact .same _
 ·cases hx;cases hy;exact .same _
 ·cases hx;cases hy;exact .same _
 ·cases hx;cases hy;exact .same _
 ·cases hx;cases hy;exact .same _
 ·cases hx;cases hy;exact .same _
 ·cases hx;cases hy;exact .same _
 ·cases hx;cases hy;exact hd
 ·cases hx;cases hy;exact he
 ·simp at hx
end Go.Gv

namespace Go.Gv
open Cod (enc dec)
structure P6 where
 kind:Int
 text:B
 pos:Int
instance:Cod P6 where
 wd:=3
 enc t:= .agg [.v (.int .u8 t.kind),enc t.text,enc t.pos]
 dec | .agg [.v (.int .u8 k),x1,x2]=> (dec x1).bind fun b=> (dec x2).bind fun c=> some ⟨k,b,c⟩ | _=> none
 kn _:=rfl
 wid _:=rfl
 dec_enc f:=by simp only[Cod.dec_enc,Option.bind_some]
 le d x h:=by
  split at h
  ·simp only[Option.bind_eq_some_iff,Option.some.injEq] at h
   obtain⟨b,h1,c,h2,rfl⟩:=h
   exact LeL.agg (.cons (.same _) (.cons (Cod.le _ _ h1) (.cons (Cod.le _ _ h2) .nil)))
  ·cases h
structure Pst where
 l:List P6
 pos:Int
 deep:Int
 e:Int
 fail:Int
def Pst.step (s:Pst):Pst:= { s with pos:=s.pos+1 }
def DT (s:Pst):Option P6:=if 0≤s.pos∧s.l.length≤1000000 then s.l[s.pos.toNat]? else none
def NF (s:Pst) (k:Int) (t:B):Option Bool:=if s.e≠0 then some false else(DT s).map fun x=> decide (x.kind=k∧x.text=t)
def gc (s:Pst) (t:B):Option (Pst×Bool):=(NF s 111 t).map fun b=> if b then(s.step,true) else(s,false)
def E0:B:=⟨#[]⟩
section
variable (A:Pst→Option (Pst×Pat))
def tU (op:Int) (l:List Pat):Pat:=match l with
 | [x]=> x
 | l=> ⟨op,Cond0,E0,E0,0,0,l⟩
end
end Go.Gv

namespace Go.Gv
def Zl (s:B) (i:Nat):Bool:=match s.data[i]? with
 | some c=> decide (c.toNat=32∨c.toNat=10)
 | none=> false
def RY (s:B) (i:Nat):Bool:=match s.data[i]? with
 | some c=> decide (48≤c.toNat∧c.toNat≤57)
 | none=> false
def JG:Nat→B→Nat→Nat
 | 0,_,i=> i
 | n+1,s,i=> if Zl s i then JG n s (i+1) else i
def br (s:B) (i:Nat):Nat:=JG (s.size -i) s i
def PJ:Nat→B→Nat→Nat
 | 0,_,i=> i
 | n+1,s,i=> if RY s i then PJ n s (i+1) else i
def pp (s:B) (i:Nat):Nat:=PJ (s.size -i) s i
def signsL:List B:= [⟨#[60,47]⟩,⟨#[33,61]⟩,⟨#[58,58]⟩,⟨#[37,99]⟩,⟨#[91]⟩,⟨#[93]⟩,⟨#[40]⟩,⟨#[41]⟩,⟨#[123]⟩,⟨#[125]⟩,⟨#[60]⟩,⟨#[62]⟩,⟨#[124]⟩,⟨#[38]⟩,⟨#[33]⟩,⟨#[61]⟩,⟨#[58]⟩,⟨#[46]⟩,⟨#[44]⟩,⟨#[63]⟩,⟨#[42]⟩,⟨#[43]⟩,⟨#[45]⟩]
def gF (s:B) (i:Nat) (x:B):Bool:=decide (i+x.size≤s.size∧s.extract i (i+x.size)=x)
theorem PK {s:B} {i:Nat} (h:i < s.size):pp s i=if RY s i then pp s (i+1) else i:=by
 unfold pp
 rw[show s.size -i=(s.size - (i+1)) +1 by omega,PJ]
end Go.Gv

namespace Go.Gv
open Cod (enc dec)
def EE (s:Pst) (e a:Int):Pst:=if s.e=0 then { s with e:=e,fail:=a } else s
def wm (s:Pst):Option Pst:=(DT s).map fun t=> EE s 3 t.pos
def RD (s:Pst):Option P6:=if 0≤s.pos∧s.pos≤1000000∧s.l.length≤1000000 then s.l[(min (s.pos+1) (s.l.length -1)).toNat]? else none
def bE (s:Pst) (k:Int) (t:B):Option (Pst×B):=(DT s).bind fun x=> if s.e≠0 then some (s,E0) else if x.kind≠k∨k=111∧x.text≠t then some (EE s 3 x.pos,E0) else some (s.step,x.text)
def sB (s:Pst) (k:Int):Option Bool:=if s.e≠0 then some false else(DT s).map fun x=> decide (x.kind=k)
def lp (n:Int) (c:UInt8):Int:=min (10*n+ ((c.toNat:Int) +208) % 256) 1000000
def qQ (t:B):Bool:=t.data.toList.all fun c=> decide (48≤c.toNat∧c.toNat≤57)
def rM (s:Pst) (limit a:Int):Option (Pst×Int):=(bE s 100 E0).bind fun r=>
 if qQ r.2=true then some (if limit < r.2.data.toList.foldl lp 0 then EE r.1 8 a else r.1,r.2.data.toList.foldl lp 0) else none
def QM (t:B):Bool:=decide (t=⟨#[115,116,114,97,116,101,103,121]⟩∨t=⟨#[119,105,116,104,105,110]⟩∨t=⟨#[99,111,110,116,97,105,110,105,110,103]⟩∨t=⟨#[111,118,101,114,108,97,112,112,105,110,103]⟩)
def yJ (s:Pst):Option Bool:=(DT s).bind fun x=> if s.e≠0 then some false else
 if x.kind=110 then(RD s).map fun n=> decide (n.kind=111∧n.text=⟨#[58]⟩) || (decide (0 < s.deep) || !QM x.text)
 else some (decide (x.kind=115∨x.kind=111∧(x.text=⟨#[91]⟩∨x.text=⟨#[60]⟩∨x.text=⟨#[60,47]⟩∨x.text=⟨#[40]⟩)))
def SO (op:Int) (l:List Cond):Cond:=match l with
 | [x]=> x
 | l=> ⟨op,E0,E0,E0,E0,false,l⟩
section
variable (N:Pst→Option (Pst×Cond)) (O:Pst→Option (Pst×Cond))
def qT:Nat→Pst→List Cond→Option (Pst×List Cond)
 | 0,_,_=> none
 | k+1,s,acc=> (gc s ⟨#[38]⟩).bind fun w=> if w.2 then(N w.1).bind fun r=> qT k r.1 (acc++ [r.2]) else some (w.1,acc)
def P5 (s:Pst):Option (Pst×Cond):=(N s).bind fun r=> (qT N 500 r.1 [r.2]).map fun q=> (q.1,SO 7 q.2)
def vg:Nat→Pst→List Cond→Option (Pst×List Cond)
 | 0,_,_=> none
 | k+1,s,acc=> (gc s ⟨#[124]⟩).bind fun w=> if w.2 then(P5 N w.1).bind fun r=> vg k r.1 (acc++ [r.2]) else some (w.1,acc)
def Uy (s:Pst):Option (Pst×Cond):=(P5 N s).bind fun r=> (vg N 500 r.1 [r.2]).map fun q=> (q.1,SO 8 q.2)
def wr (s:Pst) (name:B):Option (Pst×Cond):=(bE s 115 E0).bind fun v=> (gc v.1 ⟨#[37,99]⟩).map fun w=> (w.1,⟨2,name,E0,v.2,E0,w.2, []⟩)
def BS (s:Pst):Option (Pst×Cond):=(bE s 110 E0).bind fun n=> (gc n.1 ⟨#[44]⟩).bind fun c=>
 if c.2 then(bE c.1 110 E0).bind fun a=> (bE a.1 111 ⟨#[61]⟩).bind fun u=> (bE u.1 115 E0).bind fun v=> (bE v.1 111 ⟨#[41]⟩).map fun z=> (z.1,⟨5,n.2,a.2,v.2,E0,false, []⟩)
 else(bE c.1 111 ⟨#[41]⟩).map fun z=> (z.1,⟨5,n.2,E0,E0,E0,false, []⟩)
def AZ (s:Pst) (name:B):Option (Pst×Cond):=(gc s ⟨#[33,61]⟩).bind fun w=> if w.2 then(wr w.1 name).map fun v=> (v.1,⟨6,E0,E0,E0,E0,false, [v.2]⟩) else
 (NF w.1 110 ⟨#[99,111,110,116,97,105,110,115]⟩).bind fun b=> if b then(bE w.1.step 115 E0).map fun v=> (v.1,⟨3,name,E0,v.2,E0,false, []⟩) else
 (bE w.1 111 ⟨#[61]⟩).bind fun u=> (sB u.1 110).bind fun k=> if k then(bE u.1 110 E0).bind fun l=> (bE l.1 111 ⟨#[46]⟩).bind fun d=> (bE d.1 110 E0).map fun a=> (a.1,⟨4,name,a.2,E0,l.2,false, []⟩)
 else wr u.1 name
def WO (s:Pst):Option (Pst×Cond):=(gc s ⟨#[33]⟩).bind fun w=> if w.2 then(N w.1).map fun r=> (r.1,⟨6,E0,E0,E0,E0,false, [r.2]⟩) else
 (gc w.1 ⟨#[40]⟩).bind fun u=> if u.2 then(O u.1).bind fun x=> (bE x.1 111 ⟨#[41]⟩).map fun z=> (z.1,x.2) else
 (bE u.1 110 E0).bind fun n=> if n.2=⟨#[105,110]⟩ then(gc n.1 ⟨#[40]⟩).bind fun v=> if v.2 then BS v.1 else AZ v.1 n.2 else AZ n.1 n.2
end
def DU:Nat→Pst→Option (Pst×Cond)
 | 0=> fun _=> none
 | n+1=> WO (DU n) (Uy (DU n))
section
variable (A:Pst→Option (Pst×Pat)) (O:Pst→Option (Pst×Cond))
def zc (s:Pst) (label:B):Option (Pst×Pat):=(sB s 115).bind fun k=> if k then(wr s E0).map fun v=> (v.1,⟨1,v.2,label,E0,0,0, []⟩) else
 (bE s 111 ⟨#[91]⟩).bind fun u=> (gc u.1 ⟨#[93]⟩).bind fun w=> if w.2 then some (w.1,⟨1,⟨1,E0,E0,E0,E0,false, []⟩,label,E0,0,0, []⟩) else
 (O w.1).bind fun x=> (bE x.1 111 ⟨#[93]⟩).map fun z=> (z.1,⟨1,x.2,label,E0,0,0, []⟩)
def B3 (s:Pst) (op:Int):Option (Pst×Pat):=(bE s 110 E0).bind fun n=> (bE n.1 111 ⟨#[62]⟩).map fun z=> (z.1,⟨op,Cond0,E0,n.2,0,0, []⟩)
def RW (s:Pst):Option (Pst×Pat):=
 (gc s ⟨#[40]⟩).bind fun r=>
   if r.2 then(if 0≤r.1.deep∧r.1.deep≤1000 then(A { r.1 with deep:=r.1.deep+1 }).bind fun q=> if 0≤q.1.deep∧q.1.deep≤1000000 then(bE { q.1 with deep:=q.1.deep -1 } 111 ⟨#[41]⟩).map fun w=> (w.1,q.2) else none else none)
   else(gc r.1 ⟨#[60]⟩).bind fun b=> if b.2 then B3 b.1 2 else(gc b.1 ⟨#[60,47]⟩).bind fun c=> if c.2 then B3 c.1 3 else
   (sB c.1 110).bind fun k=> if k then(bE c.1 110 E0).bind fun n=> (bE n.1 111 ⟨#[58]⟩).bind fun u=> zc O u.1 n.2 else zc O c.1 E0
def Wo (s:Pst) (a:Int):Option (Pst×Option (Int×Int)):=(gc s ⟨#[63]⟩).bind fun w=> if w.2 then some (w.1,some (0,1)) else
 (gc w.1 ⟨#[42]⟩).bind fun w=> if w.2 then some (w.1,some (0, -1)) else
 (gc w.1 ⟨#[43]⟩).bind fun w=> if w.2 then some (w.1,some (1, -1)) else
 (gc w.1 ⟨#[123]⟩).bind fun w=> if w.2 then
   (rM w.1 16 a).bind fun lo=> (gc lo.1 ⟨#[44]⟩).bind fun c=>
     if c.2 then(sB c.1 100).bind fun k=> if k then(rM c.1 16 a).bind fun hi=> (bE (if hi.2 < lo.2 then EE hi.1 8 a else hi.1) 111 ⟨#[125]⟩).map fun z=> (z.1,some (lo.2,hi.2))
      else(bE c.1 111 ⟨#[125]⟩).map fun z=> (z.1,some (lo.2, -1))
     else(bE c.1 111 ⟨#[125]⟩).map fun z=> (z.1,some (lo.2,lo.2))
 else some (w.1,none)
def qB:Nat→Pst→Pat→Option (Pst×Pat)
 | 0,_,_=> none
 | k+1,s,x=> if s.e≠0 then some (s,x) else(DT s).bind fun t=> (Wo s t.pos).bind fun r=> match r.2 with
   | none=> some (r.1,x)
   | some m=> qB k r.1 ⟨6,Cond0,E0,E0,m.1,m.2, [x]⟩
def Uq (s:Pst):Option (Pst×Pat):=(RW A O s).bind fun r=> qB 500 r.1 r.2
def qt:Nat→Pst→List Pat→Option (Pst×List Pat)
 | 0,_,_=> none
 | k+1,s,acc=> (yJ s).bind fun b=> if b then(Uq A O s).bind fun r=> qt k r.1 (acc++ [r.2]) else some (s,acc)
def Um (s:Pst):Option (Pst×Pat):=(Uq A O s).bind fun r=> (qt A O 500 r.1 [r.2]).map fun q=> (q.1,tU 4 q.2)
def qU:Nat→Pst→List Pat→Option (Pst×List Pat)
 | 0,_,_=> none
 | k+1,s,acc=> (gc s ⟨#[124]⟩).bind fun w=> if w.2 then(Um A O w.1).bind fun r=> qU k r.1 (acc++ [r.2]) else some (w.1,acc)
def Vo (s:Pst):Option (Pst×Pat):=(Um A O s).bind fun r=> (qU A O 500 r.1 [r.2]).map fun q=> (q.1,tU 5 q.2)
end
def Vn:Nat→Pst→Option (Pst×Pat)
 | 0=> fun _=> none
 | n+1=> Vo (Vn n) (Uy (DU (n+1)))
def Sc (op:Int) (l:List Glob):Glob:=match l with
 | [x]=> x
 | l=> ⟨op,E0,E0,E0,E0,E0,false,0,0, [],l⟩
section
variable (N:Pst→Option (Pst×Glob)) (O:Pst→Option (Pst×Glob))
def nB:Nat→Pst→List Glob→Option (Pst×List Glob)
 | 0,_,_=> none
 | k+1,s,acc=> (gc s ⟨#[38]⟩).bind fun w=> if w.2 then(N w.1).bind fun r=> nB k r.1 (acc++ [r.2]) else some (w.1,acc)
def NL (s:Pst):Option (Pst×Glob):=(N s).bind fun r=> (nB N 500 r.1 [r.2]).map fun q=> (q.1,Sc 12 q.2)
def qM:Nat→Pst→List Glob→Option (Pst×List Glob)
 | 0,_,_=> none
 | k+1,s,acc=> (gc s ⟨#[124]⟩).bind fun w=> if w.2 then(NL N w.1).bind fun r=> qM k r.1 (acc++ [r.2]) else some (w.1,acc)
def R3 (s:Pst):Option (Pst×Glob):=(NL N s).bind fun r=> (qM N 500 r.1 [r.2]).map fun q=> (q.1,Sc 13 q.2)
def MT (s:Pst):Option (Pst×Int):=(DT s).bind fun t=> rM s 100000 t.pos
def vb (s:Pst):Option (Pst×Int):=(gc s ⟨#[45]⟩).bind fun w=> (MT w.1).map fun n=> (n.1,if w.2 then -n.2 else n.2)
def nE:Nat→Pst→List B→Option (Pst×List B)
 | 0,_,_=> none
 | k+1,s,acc=> (gc s ⟨#[44]⟩).bind fun w=> if w.2 then(bE w.1 115 E0).bind fun r=> nE k r.1 (acc++ [r.2]) else some (w.1,acc)
def Dm (s:Pst) (op:Int) (a b:B):Option (Pst×Glob):=
 if op=4 then(bE s 111 ⟨#[44]⟩).bind fun u=> (vb u.1).bind fun lo=> (bE lo.1 111 ⟨#[44]⟩).bind fun v=> (vb v.1).map fun hi=> (hi.1,⟨op,a,b,E0,E0,E0,false,lo.2,hi.2, [], []⟩)
 else if op=10 then(bE s 111 ⟨#[44]⟩).bind fun u=> (MT u.1).bind fun lo=> (bE lo.1 111 ⟨#[44]⟩).bind fun v=> (MT v.1).map fun hi=> (hi.1,⟨op,a,b,E0,E0,E0,false,lo.2,hi.2, [], []⟩)
 else if op=5∨op=9 then(bE s 111 ⟨#[44]⟩).bind fun u=> (bE u.1 110 E0).map fun n=> (n.1,⟨op,a,b,n.2,E0,E0,false,0,0, [], []⟩)
 else if op=8 then(nE 500 s []).map fun l=> (l.1,⟨op,a,b,E0,E0,E0,false,0,0,l.2, []⟩)
 else some (s,⟨op,a,b,E0,E0,E0,false,0,0, [], []⟩)
def SN (s:Pst) (op:Int):Option (Pst×Glob):=(bE s 110 E0).bind fun a=>
 if op≠1∧op≠10 then(bE a.1 111 ⟨#[44]⟩).bind fun u=> (bE u.1 110 E0).bind fun b=> (Dm b.1 op a.2 b.2).bind fun x=> (bE x.1 111 ⟨#[41]⟩).map fun z=> (z.1,x.2)
 else(Dm a.1 op a.2 E0).bind fun x=> (bE x.1 111 ⟨#[41]⟩).map fun z=> (z.1,x.2)
def funcsL:List (B×Int):= [(⟨#[98,111,117,110,100]⟩,1),(⟨#[100,105,115,116,97,110,99,101]⟩,4),(⟨#[115,97,109,101]⟩,5),(⟨#[104,101,97,100]⟩,6),(⟨#[97,110,99,101,115,116,111,114]⟩,7),(⟨#[112,97,116,104]⟩,8),(⟨#[110,111,100,101]⟩,9),(⟨#[100,101,112,116,104]⟩,10)]
def w9 (name:B):Int:=match funcsL.find? fun p=> decide (p.1=name) with
 | some p=> p.2
 | none=> 0
def Ag (s:Pst) (name:B):Option (Pst×Glob):=(bE s 111 ⟨#[46]⟩).bind fun d=> (bE d.1 110 E0).bind fun n=> (bE n.1 111 ⟨#[61]⟩).bind fun u=> (sB u.1 110).bind fun k=>
 if k then(bE u.1 110 E0).bind fun b=> (bE b.1 111 ⟨#[46]⟩).bind fun v=> (bE v.1 110 E0).map fun g=> (g.1,⟨3,name,b.2,n.2,g.2,E0,false,0,0, [], []⟩)
 else(bE u.1 115 E0).bind fun v=> (gc v.1 ⟨#[37,99]⟩).map fun f=> (f.1,⟨2,name,E0,n.2,E0,v.2,f.2,0,0, [], []⟩)
def VE (s:Pst):Option (Pst×Glob):=(gc s ⟨#[33]⟩).bind fun w=> if w.2 then(N w.1).map fun r=> (r.1,⟨11,E0,E0,E0,E0,E0,false,0,0, [], [r.2]⟩) else
 (gc w.1 ⟨#[40]⟩).bind fun u=> if u.2 then(O u.1).bind fun x=> (bE x.1 111 ⟨#[41]⟩).map fun z=> (z.1,x.2) else
 (bE u.1 110 E0).bind fun n=> if 0 < w9 n.2 then(gc n.1 ⟨#[40]⟩).bind fun v=> if v.2 then SN v.1 (w9 n.2) else Ag v.1 n.2 else Ag n.1 n.2
end
def Eu:Nat→Pst→Option (Pst×Glob)
 | 0=> fun _=> none
 | n+1=> VE (Eu n) (R3 (Eu n))
def filterL:List B:= [E0,⟨#[119,105,116,104,105,110]⟩,⟨#[99,111,110,116,97,105,110,105,110,103]⟩,⟨#[111,118,101,114,108,97,112,112,105,110,103]⟩]
def cM:List B:= [⟨#[101,97,99,104]⟩,⟨#[115,104,111,114,116,101,115,116]⟩,⟨#[108,111,110,103,101,115,116]⟩,⟨#[116,114,97,100,105,116,105,111,110,97,108]⟩]
def Gh (s:Pst):List B→Int→Option Int
 | [],_=> some (-1)
 | w::l,i=> (NF s 110 w).bind fun b=> if b then some i else Gh s l (i+1)
def ji:Nat→Pst→List jK→Option (Pst×List jK)
 | 0,_,_=> none
 | k+1,s,acc=> if s.e≠0 then some (s,acc) else(gc s ⟨#[33]⟩).bind fun w=> (Gh w.1 (filterL.drop 1) 1).bind fun op=>
   if op= -1 then(if w.2 then(wm w.1).map fun z=> (z,acc) else some (w.1,acc))
   else(bE w.1.step 110 E0).bind fun n=> ji k n.1 (acc++ [⟨op,w.2,n.2⟩])
def zd (s:Pst):Option (Pst×Int):=(NF s 110 ⟨#[115,116,114,97,116,101,103,121]⟩).bind fun b=> if b then(Gh s.step cM 0).bind fun k=> if k= -1 then(wm s.step).map fun z=> (z, -1) else some (s.step.step,k) else some (s,0)
def Dr (l:List P6):Option (Pst×Qry):=(Vn 500 ⟨l,0,0,0,0⟩).bind fun p=> (gc p.1 ⟨#[58,58]⟩).bind fun c=>
 (if c.2 then R3 (Eu 500) c.1 else some (c.1,⟨0,E0,E0,E0,E0,E0,false,0,0, [], []⟩)).bind fun g=> (ji 500 g.1 []).bind fun f=> (zd f.1).bind fun z=>
 (sB z.1 101).bind fun b=> if b∨z.1.e≠0 then some (z.1,⟨p.2,g.2,f.2,z.2⟩) else(wm z.1).map fun w=> (w,⟨p.2,g.2,f.2,z.2⟩)
end Go.Gv

namespace Go.Gv
def D1 (c:Nat):Bool:=decide (65≤c∧c≤90∨97≤c∧c≤122∨c=95)
def Pl (s:B) (i:Nat):Bool:=match s.data[i]? with
 | some c=> D1 c.toNat || decide (48≤c.toNat∧c.toNat≤57∨c.toNat=45)
 | none=> false
def Pe:Nat→B→Nat→Nat
 | 0,_,i=> i
 | n+1,s,i=> if Pl s i then Pe n s (i+1) else i
def qI (s:B) (i:Nat):Nat:=Pe (s.size -i) s i
def ni:Nat→B→Nat→B→Option (Nat×B)
 | 0,_,_,_=> none
 | n+1,s,j,v=> match s.data[j]? with
   | none=> none
   | some c=> if c.toNat=34 then(match s.data[j+1]? with
      | some d=> if d.toNat=34 then ni n s (j+2) (v++s.extract (j+1) (j+2)) else some (j,v)
      | none=> some (j,v)) else ni n s (j+1) (v++s.extract j (j+1))
def tS (s:B) (j:Nat) (v:B):Option (Nat×B):=ni (s.size -j) s j v
def Wn (s:B) (i:Nat):Option (Nat×P6):=match s.data[i]? with
 | none=> none
 | some c=>
   if D1 c.toNat then some (qI s i,⟨110,s.extract i (qI s i),i⟩)
   else if 48≤c.toNat∧c.toNat≤57 then some (pp s i,⟨100,s.extract i (pp s i),i⟩)
   else if c.toNat=34 then(tS s (i+1) ⟨#[]⟩).map fun r=> (r.1+1,⟨115,r.2,i⟩)
   else(signsL.find? (gF s i)).map fun x=> (i+x.size,⟨111,s.extract i (i+x.size),i⟩)
def HM:Nat→B→Nat→List P6→Option (List P6)
 | 0,_,_,_=> none
 | k+1,s,i,out=> if br s i=s.size then some (out++ [⟨101,E0,s.size⟩]) else match Wn s (br s i) with
   | none=> some (out++ [⟨120,E0,br s i⟩])
   | some r=> if r.1≤s.size∧br s i < r.1 then HM k s r.1 (out++ [r.2]) else none
def Q4 (s:B):Option (List P6):=HM (s.size+1) s 0 []
def Bl:Qry:=⟨⟨0,Cond0,E0,E0,0,0, []⟩,⟨0,E0,E0,E0,E0,E0,false,0,0, [], []⟩, [],0⟩
def If (s:B):Option (Qry×Int×Int):=if 400 < s.size then some (Bl,0,2) else
 (Q4 s).bind fun l=> (Dr l).map fun r=> if r.1.e≠0 then(Bl,r.1.fail,r.1.e) else(r.2,0,0)
end Go.Gv
