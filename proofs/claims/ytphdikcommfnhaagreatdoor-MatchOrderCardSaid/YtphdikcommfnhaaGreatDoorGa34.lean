/- A part of the framework and of the walks: V6 V7 V8 V12 V13 W2 W31 V15 V16 T24 V18 V19 V58 T37 T38. -/
import Derived.Test.YtphdikcommfnhaaGreatDoorGa20
import Derived.Test.YtphdikcommfnhaaGreatDoorGa33
import Derived.Test.YtphdikcommfnhaaGreatDoorGa24
import Derived.Test.YtphdikcommfnhaaGreatDoorGa21
import Derived.Test.YtphdikcommfnhaaGreatDoorGa32
import Derived.Test.YtphdikcommfnhaaGreatDoorGa18
import Derived.Test.YtphdikcommfnhaaGreatDoorGa22
import Derived.Test.YtphdikcommfnhaaGreatDoorGa19
set_option linter.unusedSimpArgs false
set_option linter.unusedVariables false
set_option maxRecDepth 100000
set_option linter.unusedSectionVars false

namespace Go.Gv
open Cod (enc dec)
structure Glob where
 op:Int
 a:B
 b:B
 name:B
 arg:B
 val:B
 fold:Bool
 mn:Int
 mx:Int
 args:List B
 kids:List Glob
mutual
def FA:Glob->D
 | .mk p0 p1 p2 p3 p4 p5 p6 p7 p8 p9 ks=> .agg [enc p0,enc p1,enc p2,enc p3,enc p4,enc p5,enc p6,enc p7,enc p8,enc p9, .list 11 (ts ks)]
def ts:List Glob->List D
 | []=> []
 | k::ks=> FA k::ts ks
end
mutual
def LN:D->Option Glob
 | .agg [x0,x1,x2,x3,x4,x5,x6,x7,x8,x9,x10]=> (dec x0).bind fun p0=> (dec x1).bind fun p1=> (dec x2).bind fun p2=> (dec x3).bind fun p3=> (dec x4).bind fun p4=> (dec x5).bind fun p5=> (dec x6).bind fun p6=> (dec x7).bind fun p7=> (dec x8).bind fun p8=> (dec x9).bind fun p9=> (Cn x10).bind fun ks=> some (.mk p0 p1 p2 p3 p4 p5 p6 p7 p8 p9 ks)
 | _=> none
def Cn:D->Option (List Glob)
 | .list n es=> if n=11 then u0 es else none
 | .v (.slice none 0 0)=> some []
 | _=> none
def u0:List D->Option (List Glob)
 | []=> some []
 | d::ds=> (LN d).bind fun x=> (u0 ds).bind fun xs=> some (x::xs)
end
theorem BD: ∀l:List Glob,ts l=l.map FA
 | []=> rfl
 | _::l=> by rw[ts,BD l];rfl
theorem OW: ∀c:Glob,(FA c).kn=true
 | .mk .. => rfl
theorem Ls: ∀c:Glob,(FA c).cells.length=11
 | .mk .. => rfl
mutual
theorem LM: ∀c:Glob,LN (FA c)=some c
 | .mk p0 p1 p2 p3 p4 p5 p6 p7 p8 p9 ks=> by
   have h:Cn (.list 11 (ts ks))=some ks:=by rw[Cn,if_pos rfl];exact HV ks
   simp only[FA,LN,Cod.dec_enc,Option.bind_some,h]
theorem HV: ∀l:List Glob,u0 (ts l)=some l
 | []=> by simp only[ts,u0]
 | c::l=> by simp only[ts,u0,LM c,HV l,Option.bind_some]
end
mutual
theorem O3: ∀ (d:D) (c:Glob),LN d=some c->FrzTo ed d (FA c)
 | .agg [x0,x1,x2,x3,x4,x5,x6,x7,x8,x9,x10],c,h=> by
   simp only[LN,Option.bind_eq_some_iff,Option.some.injEq] at h
   obtain⟨p0,h0,p1,h1,p2,h2,p3,h3,p4,h4,p5,h5,p6,h6,p7,h7,p8,h8,p9,h9,ks,hk,rfl⟩:=h
   rw[FA]
   exact LeL.agg (.cons (Cod.le _ _ h0) (.cons (Cod.le _ _ h1) (.cons (Cod.le _ _ h2) (.cons (Cod.le _ _ h3) (.cons (Cod.le _ _ h4) (.cons (Cod.le _ _ h5) (.cons (Cod.le _ _ h6) (.cons (Cod.le _ _ h7) (.cons (Cod.le _ _ h8) (.cons (Cod.le _ _ h9) ((.cons (TW x10 ks hk) .nil))))))))))))
theorem TW: ∀ (d:D) (l:List Glob),Cn d=some l->FrzTo ed d (.list 11 (ts l))
 | .list n es,l,h=> by
   simp only[Cn] at h
   split at h
   ·rename_i hn
    subst hn
    have hl:=LL es l h
    refine .list hl.1 (fun e he=> ?_) hl.2
    rw[BD] at he
    obtain⟨x,hx,rfl⟩:=List.mem_map.1 he
    exact⟨OW x,Ls x⟩
   ·cases h
 | .v (.slice none 0 0),l,h=> by
   simp only[Cn,Option.some.injEq] at h
   subst h
   exact .nil _
theorem LL: ∀ (es:List D) (l:List Glob),u0 es=some l->LeL es (ts l)
 | [],l,h=> by
   simp only[u0,Option.some.injEq] at h
   subst h
   exact .nil
 | d::ds,l,h=> by
   simp only[u0,Option.bind_eq_some_iff,Option.some.injEq] at h
   obtain⟨x,h1,xs,h2,rfl⟩:=h
   rw[ts]
   exact .cons (O3 d x h1) (LL ds xs h2)
end
instance:Cod Glob where
 wd:=11
 enc:=FA
 dec:=LN
 kn:=OW
 wid:=Ls
 dec_enc:=LM
 le:=O3
theorem QY (ks:List Glob):D.list 11 (ts ks)=enc ks:=by rw[BD];rfl
theorem FI: ∀es:List D,u0 es=es.mapM (dec (X:=Glob))
 | []=> by simp[u0]
 | d::es=> by
   rw[u0,List.mapM_cons,FI es]
   rfl
theorem TX: ∀d:D,Cn d=dec (X:=List Glob) d:=fun d=> by
 unfold Cn
 split
 ·rename_i n es
  show _=if n=11 then es.mapM (dec (X:=Glob)) else none
  rw[FI]
 ·rfl
 ·rename_i h1 h2
  show _=(match d with
   | .list n es=> if n=11 then es.mapM (dec (X:=Glob)) else none
   | .v (.slice none 0 0)=> some []
   | _=> none)
  split
  ·exact absurd rfl (h1 _ _)
  ·exact absurd rfl h2
  ·rfl
@[simp] theorem qbY (s:Glob):Glob.mk s.op s.a s.b s.name s.arg s.val s.fold s.mn s.mx s.args s.kids=s:=by cases s;rfl
@[simp] theorem Lp (s:Glob):enc s= .agg [enc s.op,enc s.a,enc s.b,enc s.name,enc s.arg,enc s.val,enc s.fold,enc s.mn,enc s.mx,enc s.args,enc s.kids]:=by
 rw[<-QY]
 cases s
 show FA _=_
 rw[FA]
@[simp] theorem qc2:Cod.wd Glob=11:=id rfl
@[simp] theorem qca (x0 x1 x2 x3 x4 x5 x6 x7 x8 x9 x10:D):dec (X:=Glob) (.agg [x0,x1,x2,x3,x4,x5,x6,x7,x8,x9,x10])=((dec x0).bind fun x0=> (dec x1).bind fun x1=> (dec x2).bind fun x2=> (dec x3).bind fun x3=> (dec x4).bind fun x4=> (dec x5).bind fun x5=> (dec x6).bind fun x6=> (dec x7).bind fun x7=> (dec x8).bind fun x8=> (dec x9).bind fun x9=> (dec x10).bind fun x10=> some ⟨x0,x1,x2,x3,x4,x5,x6,x7,x8,x9,x10⟩):=by
 show LN _=_
 simp only[LN,TX]
structure Oa where
 op:Int
 neg:Bool
 reg:B
instance:Cod Oa where
 wd:=3
 enc f:= .agg [enc f.op,enc f.neg,enc f.reg]
 dec | .agg [x0,x1,x2]=> (dec x0).bind fun a=> (dec x1).bind fun b=> (dec x2).bind fun c=> some ⟨a,b,c⟩ | _=> none
 kn _:=rfl
 wid _:=rfl
 dec_enc f:=by simp only[Cod.dec_enc,Option.bind_some]
 le d x h:=by
  split at h
  ·simp only[Option.bind_eq_some_iff,Option.some.injEq] at h
   obtain⟨a,h0,b,h1,c,h2,rfl⟩:=h
   exact LeL.agg (.cons (Cod.le _ _ h0) (.cons (Cod.le _ _ h1) (.cons (Cod.le _ _ h2) .nil)))
  ·cases h
@[simp] theorem qc3:Cod.wd Oa=3:=id rfl
structure Qry where
 pat:Pat
 glob:Glob
 filts:List Oa
 strat:Int
def BI:Pat->List D | .mk op c l r mn mx ks=> enc op:: (u3 c++ [enc l,enc r,enc mn,enc mx,enc ks])
theorem Q4: ∀p:Pat,D.agg (BI p)=enc p
 | .mk .. => (JB ..).symm
theorem NW: ∀p:Pat,(BI p).length=13
 | .mk op c l r mn mx ks=> by simp[BI,FP]
def FO (g:Glob):List D:= [enc g.op,enc g.a,enc g.b,enc g.name,enc g.arg,enc g.val,enc g.fold,enc g.mn,enc g.mx,enc g.args,enc g.kids]
theorem Q5 (g:Glob):D.agg (FO g)=enc g:=(Lp g).symm
theorem UD {l l':List D} (h:FrzTo ed (.agg l) (.agg l')):LeL l l':=by
 cases h with
 | same=> exact⟨rfl,fun k x y hx hy=> by rw[hx] at hy;cases hy;exact .same _⟩
 | agg hl h=> exact⟨hl,h⟩
theorem TQ {l:List D} {p:Pat} (h:dec (D.agg l)=some p):LeL l (BI p):=UD (by rw[Q4];exact Cod.le _ _ h)
theorem QZ {l:List D} {p:Glob} (h:dec (D.agg l)=some p):LeL l (FO p):=UD (by rw[Q5];exact Cod.le _ _ h)
def Y6 (q:Qry):D:= .agg (BI q.pat++ (FO q.glob++ [enc q.filts,enc q.strat]))
def Zg:D->Option Qry
 | .agg [x0,x1,x2,x3,x4,x5,x6,x7,x8,x9,x10,x11,x12,y0,y1,y2,y3,y4,y5,y6,y7,y8,y9,y10,f,s]=> (dec (D.agg [x0,x1,x2,x3,x4,x5,x6,x7,x8,x9,x10,x11,x12])).bind fun p=> (dec (D.agg [y0,y1,y2,y3,y4,y5,y6,y7,y8,y9,y10])).bind fun g=> (dec f).bind fun fs=> (dec s).bind fun st=> some ⟨p,g,fs,st⟩
 | _=> none
instance:Cod Qry where
 wd:=26
 enc:=Y6
 dec:=Zg
 kn _:=rfl
 wid q:=by simp[Y6,D.cells,NW,FO]
 dec_enc q:=by
  obtain⟨⟨op,⟨o,n,a,v,l,f,cks⟩,lb,rg,mn,mx,ks⟩,g,fs,st⟩:=q
  have h1:=Cod.dec_enc (⟨op,⟨o,n,a,v,l,f,cks⟩,lb,rg,mn,mx,ks⟩:Pat)
  have h2:=Cod.dec_enc g
  rw[JB] at h1
  rw[Lp] at h2
  simp only[u3,List.cons_append,List.nil_append] at h1
  simp only[Y6,BI,u3,FO,List.cons_append,List.nil_append,Zg,h1,h2,Cod.dec_enc,Option.bind_some]
 le d x h:=by
  unfold Zg at h
  split at h
  ·simp only[Option.bind_eq_some_iff,Option.some.injEq] at h
   obtain⟨p,h0,g,h1,fs,h2,st,h3,rfl⟩:=h
   exact LeL.agg ((TQ h0).append ((QZ h1).append (.cons (Cod.le _ _ h2) (.cons (Cod.le _ _ h3) .nil))))
  ·cases h
@[simp] theorem qeI (s:Qry):Qry.mk s.pat s.glob s.filts s.strat=s:=by cases s;rfl
@[simp] theorem qeT (s:Qry):enc s= .agg [enc s.pat.op,enc s.pat.cond.op,enc s.pat.cond.name,enc s.pat.cond.arg,enc s.pat.cond.val,enc s.pat.cond.lab,enc s.pat.cond.fold,enc s.pat.cond.kids,enc s.pat.lab,enc s.pat.reg,enc s.pat.mn,enc s.pat.mx,enc s.pat.kids,enc s.glob.op,enc s.glob.a,enc s.glob.b,enc s.glob.name,enc s.glob.arg,enc s.glob.val,enc s.glob.fold,enc s.glob.mn,enc s.glob.mx,enc s.glob.args,enc s.glob.kids,enc s.filts,enc s.strat]:=by
 obtain⟨⟨op,⟨o,n,a,v,l,f,cks⟩,lb,rg,mn,mx,ks⟩,g,fs,st⟩:=s
 rfl
@[simp] theorem qe2 (x0 x1 x2 x3 x4 x5 x6 x7 x8 x9 x10 x11 x12 y0 y1 y2 y3 y4 y5 y6 y7 y8 y9 y10 f s:D):dec (X:=Qry) (.agg [x0,x1,x2,x3,x4,x5,x6,x7,x8,x9,x10,x11,x12,y0,y1,y2,y3,y4,y5,y6,y7,y8,y9,y10,f,s])=((dec (D.agg [x0,x1,x2,x3,x4,x5,x6,x7,x8,x9,x10,x11,x12])).bind fun p=> (dec (D.agg [y0,y1,y2,y3,y4,y5,y6,y7,y8,y9,y10])).bind fun g=> (dec f).bind fun fs=> (dec s).bind fun st=> some ⟨p,g,fs,st⟩):=id rfl
end Go.Gv

namespace Go.Gv
open Cod (enc dec)
structure Cp where
 kind:Int
 text:B
 pos:Int
instance:Cod Cp where
 wd:=3
 enc t:= .agg [.v (.int .u8 t.kind),enc t.text,enc t.pos]
 dec | .agg [.v (.int .u8 k),x1,x2]=> (dec x1).bind fun b=> (dec x2).bind fun c=> some ⟨k,b,c⟩ | _=> none
 kn _:=rfl
 wid _:=rfl
 dec_enc f:=by simp only[Cod.dec_enc,Option.bind_some]
 le d x h:=by
  split at h
  ·simp only[Option.bind_eq_some_iff,Option.some.injEq] at h
   obtain⟨b,h1,c,h2,rfl⟩:=h
   exact LeL.agg (.cons (.same _) (.cons (Cod.le _ _ h1) (.cons (Cod.le _ _ h2) .nil)))
  ·cases h
@[simp] theorem qeQ (s:Cp):enc s= .agg [.v (.int .u8 s.kind),enc s.text,enc s.pos]:=id rfl
@[simp] theorem qfU:Cod.wd Cp=3:=id rfl
structure Pst where
 l:List Cp
 pos:Int
 deep:Int
 e:Int
 fail:Int
@[simp] theorem qeJ (s:Pst):Pst.mk s.l s.pos s.deep s.e s.fail=s:=by cases s;rfl
def jZ (s:Pst):List D:= [enc s.l,enc s.pos,enc s.deep,enc s.e,enc s.fail]
@[simp] theorem qch (s:Pst):jZ s= [enc s.l,enc s.pos,enc s.deep,enc s.e,enc s.fail]:=id rfl
def Pst.step (s:Pst):Pst:= { s with pos:=s.pos+1 }
def sJ (s:Pst):Option Cp:=if 0<=s.pos/\s.l.length<=1000000 then s.l[s.pos.toNat]? else none
def OI (s:Pst) (k:Int) (t:B):Option Bool:=if s.e≠0 then some false else(sJ s).map fun x=> decide (x.kind=k/\x.text=t)
def nR (s:Pst) (t:B):Option (Pst×Bool):=(OI s 111 t).map fun b=> if b then(s.step,true) else(s,false)
def yb (s:Pst) (k:Int) (t:B):Option (Pst×B):=if s.e≠0 then none else(sJ s).bind fun x=> if x.kind≠k\/k=111/\x.text≠t then none else some (s.step,x.text)
def E0:B:=⟨#[]⟩
section
variable (A:Pst->Option (Pst×Pat))
def Xv (op:Int) (l:List Pat):Pat:=match l with
 | [x]=> x
 | l=> ⟨op,qN,E0,E0,0,0,l⟩
end
end Go.Gv

namespace Go.Gv
def Wi (s:B) (i:Nat):Bool:=match s.data[i]? with
 | some c=> decide (c.toNat=32\/c.toNat=10)
 | none=> false
def Oj:Nat->B->Nat->Nat
 | 0,_,i=> i
 | n+1,s,i=> if Wi s i then Oj n s (i+1) else i
def qw (s:B) (i:Nat):Nat:=Oj (s.size -i) s i
def VJ:Nat->B->Nat->B->Option (Nat×B)
 | 0,_,_,_=> none
 | n+1,s,j,v=> match s.data[j]? with
   | none=> none
   | some c=> if c.toNat=34 then(match s.data[j+1]? with
      | some d=> if d.toNat=34 then none else some (j,v)
      | none=> some (j,v)) else VJ n s (j+1) (v++s.extract j (j+1))
def Nl (s:B) (j:Nat) (v:B):Option (Nat×B):=VJ (s.size -j) s j v
def signsL:List B:= [⟨#[60,47]⟩,⟨#[33,61]⟩,⟨#[58,58]⟩,⟨#[37,99]⟩,⟨#[91]⟩,⟨#[93]⟩,⟨#[40]⟩,⟨#[41]⟩,⟨#[123]⟩,⟨#[125]⟩,⟨#[60]⟩,⟨#[62]⟩,⟨#[124]⟩,⟨#[38]⟩,⟨#[33]⟩,⟨#[61]⟩,⟨#[58]⟩,⟨#[46]⟩,⟨#[44]⟩,⟨#[63]⟩,⟨#[42]⟩,⟨#[43]⟩,⟨#[45]⟩]
def YB (s:B) (i:Nat) (x:B):Bool:=decide (i+x.size<=s.size/\s.extract i (i+x.size)=x)
theorem wI {s:B} {i:Nat} (h:i < s.size):qw s i=if Wi s i then qw s (i+1) else i:=by
 unfold qw
 rw[show s.size -i=(s.size - (i+1)) +1 by omega,Oj]
theorem Hh {s:B} {i:Nat} (h:s.size<=i):qw s i=i:=by
 unfold qw
 rw[show s.size -i=0 by omega,Oj]
theorem P1 {s:B} {j:Nat} {v:B} {c:UInt8} (h:s.data[j]?=some c):Nl s j v=if c.toNat=34 then(match s.data[j+1]? with
 | some d=> if d.toNat=34 then none else some (j,v)
 | none=> some (j,v)) else Nl s (j+1) (v++s.extract j (j+1)):=by
 have hj:j < s.size:=(Array.getElem?_eq_some_iff.1 h).1
 unfold Nl
 rw[show s.size -j=(s.size - (j+1)) +1 by omega,VJ,h]
theorem Sf {s:B} {j:Nat} {v:B} (h:s.size<=j):Nl s j v=none:=by
 unfold Nl
 rw[show s.size -j=0 by omega,VJ]
end Go.Gv

namespace Go.Gv
open Cod (enc dec)
section
variable (N:Pst->Option (Pst×Cond)) (O:Pst->Option (Pst×Cond))
end
section
variable (A:Pst->Option (Pst×Pat)) (O:Pst->Option (Pst×Cond))
end
section
variable (N:Pst->Option (Pst×Glob)) (O:Pst->Option (Pst×Glob))
end
end Go.Gv

namespace Go.Gv
def ST (c:Nat):Bool:=decide (65<=c/\c<=90\/97<=c/\c<=122\/c=95)
def Ta (s:B) (i:Nat):Bool:=match s.data[i]? with
 | some c=> ST c.toNat || decide (48<=c.toNat/\c.toNat<=57\/c.toNat=45)
 | none=> false
def VU:Nat->B->Nat->Nat
 | 0,_,i=> i
 | n+1,s,i=> if Ta s i then VU n s (i+1) else i
def A8 (s:B) (i:Nat):Nat:=VU (s.size -i) s i
end Go.Gv

namespace Go.Gv
open Cod (enc dec)
variable {S S0:Nat->Spc}
end Go.Gv

namespace Go.Gv
open Cod (enc dec)
variable {S S0:Nat->Spc}
def Af (c:Int):Bool:=decide (65<=c/\c<=90\/97<=c/\c<=122\/c=95)
def Ua (c:Int):Bool:=Af c || decide (48<=c/\c<=57\/c=45)
def FZ (s:B):Prop:=1<=s.size/\s.size<=32/\(∀c:UInt8,s.data[0]?=some c->Af c.toNat=true)/\ ∀ (k:Nat) (c:UInt8),s.data[k]?=some c->Ua c.toNat=true
noncomputable def eb (s:B):Bool:= @decide (FZ s) (Classical.propDecidable _)
theorem wE (s:B):eb s=true↔FZ s:= @decide_eq_true_iff (FZ s) (Classical.propDecidable _)
theorem Ru {s:B} (h:FZ s):true=eb s:=((wE s).2 h).symm
theorem yr {s:B} (h: ¬FZ s):false=eb s:=by
 rcases hb:eb s
 ·rfl
 ·exact absurd ((wE s).1 hb) h
abbrev ni:Spc:=cC (a1 U8) (fun _=> True) (enc (X:=Bool)) fun x y=> y=Af x.val
abbrev D4:Spc:=cC (a1 U8) (fun _=> True) (enc (X:=Bool)) fun x y=> y=Ua x.val
abbrev DW:Spc:=cC (a1 B) (fun _=> True) (enc (X:=Bool)) fun x y=> y=eb x
theorem Cw:aV m6 mM S (a1 U8) (fun _=> True) (enc (X:=Bool)) fun x y=> y=Af x.val:=by
 rintro⟨c⟩ -
 simp[m6,mM,Af]
 repeat' first | apply And.intro | intro _
 all_goals first | omega | (rw[Bool.eq_iff_iff];simp;omega)
theorem Cv (h1:S a8=ni):aV m5 mL S (a1 U8) (fun _=> True) (enc (X:=Bool)) fun x y=> y=Ua x.val:=by
 rintro⟨c⟩ -
 simp[m5,mL,h1,Ua, -Bool.forall_bool]
 rcases hb:Af c <;> simp[hb]
 repeat' first | apply And.intro | intro _
 all_goals first | omega | (rw[Bool.eq_iff_iff];simp;omega)
theorem wy (h1:S a8=ni) (h2:S ct=D4):aV jF jt S (a1 B) (fun _=> True) (enc (X:=Bool)) fun x y=> y=eb x:=by
 rintro s -
 simp[jF,jt,h1,h2]
 refine fun _=> ⟨fun k1 _=> ⟨fun k2=> ⟨by omega,fun c hc=> ⟨fun hb=> (yr fun h=> by rw[h.2.2.1 c hc] at hb;cases hb).symm,fun hb _=> ?_⟩⟩,fun k2=> (yr fun h=> by have:=h.2.1;omega).symm⟩,fun k1=> (yr fun h=> by have:=h.1;omega).symm⟩
 refine aA (X:=Unit) [0] [] s.size (fun k _=> ∀ (j:Nat) (c:UInt8),j < k->s.data[j]?=some c->Ua c.toNat=true) (fun _=> []) (fun _=> []) () (by simp) (by simp) (by omega) (by simp) (by simp) (by intro j d hj;omega) (by simp) (by simp) ?_ ?_
 ·rintro k -hk h5
  simp[h2]
  refine⟨hk,fun d hd=> ⟨fun hf=> (yr fun h=> by rw[h.2.2.2 k d hd] at hf;cases hf).symm,fun ht j e hj he=> ?_⟩⟩
  by_cases e1:j=k
  ·subst e1
   rw[hd] at he
   cases he
   exact ht
  ·exact h5 j e (by omega) he
 ·rintro -h5
  simp
  refine(Ru ⟨by omega,by omega,fun d hd=> by rw[hc] at hd;cases hd;exact hb,fun j e he=> h5 j e ?_ he⟩).symm
  exact(Array.getElem?_eq_some_iff.1 he).1
end Go.Gv

namespace Go.Gv
end Go.Gv

namespace Go.Gv
open Cod (enc dec)
end Go.Gv

namespace Go.Gv
open Cod (enc dec)
structure XL where
 txt:B
 fin:Int
 kind:Int
 text:B
 pos:Int
section
variable {Y Z:Type}
variable {P:Program} {S:Nat->Spc} {f:Nat} {im:List Nat} {cc:CC} {rs:List ar} {N:Nat}
end
section
variable {Y Z:Type}
variable {P:Program} {S:Nat->Spc} {f:Nat} {im:List Nat} {cc:CC} {rs:List ar} {N:Nat}
end
end Go.Gv

namespace Go.Gv
section
variable (N:XL->Option (XL×Cond)) (O:XL->Option (XL×Cond))
end
section
variable (A:XL->Bool->Option (XL×Pat)) (O:XL->Option (XL×Cond))
end
def nD:Glob:=⟨0,E0,E0,E0,E0,E0,false,0,0, [], []⟩
end Go.Gv

namespace Go.Gv
def YZ (l:List B) (x:B):Bool:=l.any fun z=> decide (z=x)
theorem K5 (l:List B) (x:B):YZ l x=true↔x∈l:=by
 unfold YZ
 rw[List.any_eq_true]
 exact⟨fun⟨z,h1,h2⟩=> by rw[decide_eq_true_eq] at h2;rwa [<-h2],fun h=> ⟨x,h,decide_eq_true rfl⟩⟩
instance decMem (l:List B) (x:B):Decidable (x∈l):=if h:YZ l x=true then .isTrue ((K5 l x).1 h) else .isFalse fun hx=> h ((K5 l x).2 hx)
def UE (out:List B) (x:B):List B:=if x∈out then out else out++ [x]
end Go.Gv

namespace Go.Gv
open Go.Proofs
end Go.Gv

namespace Go.Gv
open Cod (enc dec)
section
variable {S:Nat->Spc} {σ:Sg} {H Hr:aa} {K:D->aa->Prop}
def YL (dst:Option Nat) (H:aa) (K:D->aa->Prop):Prop:=match dst with
 | some t=> ∀x,K (.own t x) (ah H t (some (.mrow x [])))
 | none=> False
@[simp] theorem qgO (t:Nat) (H:aa) (K:D->aa->Prop):YL (some t) H K= ∀x,K (.own t x) (ah H t (some (.mrow x []))):=id rfl
def Qn (id:Nat) (x:Value) (ka:Bool) (ks:List KK) (k v:D) (r:Option Res) (H:aa) (K:D->aa->Prop):Prop:=match r with
 | some (.mrow x' es)=> x'=x/\wg ka ks k v es fun es'=> K .undef (ah H id (some (.mrow x' es')))
 | _=> False
@[simp] theorem qgG (id:Nat) (x x':Value) (ka:Bool) (ks:List KK) (k v:D) (es:List D) (H:aa) (K:D->aa->Prop):Qn id x ka ks k v (some (.mrow x' es)) H K=(x'=x/\wg ka ks k v es fun es'=> K .undef (ah H id (some (.mrow x' es')))):=_root_.id rfl
def SD (ka:Bool) (ks:List KK) (d k v:D) (H:aa) (K:D->aa->Prop):Prop:=match d with
 | .own id x=> Qn id x ka ks k v (H id) H K
 | _=> False
@[simp] theorem qgF (id:Nat) (x:Value) (ka:Bool) (ks:List KK) (k v:D) (H:aa) (K:D->aa->Prop):SD ka ks (.own id x) k v H K=Qn id x ka ks k v (H id) H K:=_root_.id rfl
def SE (dst:Option Nat) (d:D) (H:aa) (K:D->aa->Prop):Prop:=match dst with
 | some t=> (match d with
   | .mp es=> ∀b,K (.bptr t b 0) (ah H t (some (.miter b [] es)))
   | .v (.map none)=> ∀b,K (.bptr t b 0) (ah H t (some (.miter b [] [])))
   | _=> False)
 | none=> False
@[simp] theorem qgL (t:Nat) (es:List D) (H:aa) (K:D->aa->Prop):SE (some t) (.mp es) H K= ∀b,K (.bptr t b 0) (ah H t (some (.miter b [] es))):=id rfl
def Qo (id b:Nat) (r:Option Res) (H:aa) (K:D->aa->Prop):Prop:=match r with
 | some (.miter b' cur left)=> b'=b/\(left= []->K (.tup [.v (.bool false)]) H)/\ ∀l1 e l2,left=l1++e::l2->K (.tup [.v (.bool true), .any, .any]) (ah H id (some (.miter b' [e] (l1++l2))))
 | _=> False
@[simp] theorem qgN (id b b':Nat) (cur left:List D) (H:aa) (K:D->aa->Prop):Qo id b (some (.miter b' cur left)) H K=(b'=b/\(left= []->K (.tup [.v (.bool false)]) H)/\ ∀l1 e l2,left=l1++e::l2->K (.tup [.v (.bool true), .any, .any]) (ah H id (some (.miter b' [e] (l1++l2))))):=_root_.id rfl
def SG (d:D) (H:aa) (K:D->aa->Prop):Prop:=match d with
 | .bptr id b off=> off=0/\Qo id b (H id) H K
 | _=> False
@[simp] theorem qgM (i b off:Nat) (H:aa) (K:D->aa->Prop):SG (.bptr i b off) H K=(off=0/\Qo i b (H i) H K):=id rfl
def Qq (b:Nat) (r:Option Res) (K:D->Prop):Prop:=match r with
 | some (.miter b' [e] _)=> b'=b/\K e
 | _=> False
@[simp] theorem qgW (b b':Nat) (e:D) (l:List D) (K:D->Prop):Qq b (some (.miter b' [e] l)) K=(b'=b/\K e):=id rfl
def SJ (d:D) (H:aa) (K:D->Prop):Prop:=match d with
 | .bptr id b off=> off=0/\Qq b (H id) K
 | _=> False
@[simp] theorem qgV (i b off:Nat) (H:aa) (K:D->Prop):SJ (.bptr i b off) H K=(off=0/\Qq b (H i) K):=id rfl
def Z4 (x:Value) (r:Option Res) (K:List D->Prop):Prop:=match r with
 | some (.mrow x' es)=> x'=x/\K es
 | _=> False
@[simp] theorem qky (x x':Value) (es:List D) (K:List D->Prop):Z4 x (some (.mrow x' es)) K=(x'=x/\K es):=id rfl
def VW (d:D) (H:aa) (K:List D->Prop):Prop:=match d with
 | .mp es=> K es
 | .v (.map none)=> K []
 | .own id x=> Z4 x (H id) K
 | _=> False
@[simp] theorem qkx (es:List D) (H:aa) (K:List D->Prop):VW (.mp es) H K=K es:=id rfl
@[simp] theorem qkw (i:Nat) (x:Value) (H:aa) (K:List D->Prop):VW (.own i x) H K=Z4 x (H i) K:=id rfl
theorem Nu (d:D) (H:aa) (K:List D->Prop):uI d H K=VW d H K:=by
 unfold uI VW Z4
 cases d <;> rfl
def SI (len sz:Nat) (x i:D) (K:D->Prop):Prop:=match i with
 | .v (.int _ k)=> 0<=k/\k < len/\Fs (k.toNat*sz) x K
 | _=> False
@[simp] theorem qgR (len sz:Nat) (x:D) (q:IntKind) (k:Int) (K:D->Prop):SI len sz x (.v (.int q k)) K=(0<=k/\k < len/\Fs (k.toNat*sz) x K):=id rfl
@[simp] theorem qez (o:Nat) (cs:List D) (p:Nat) (K:D->Prop):Fs o (.cptr cs p) K=K (.cptr cs (p+o)):=id rfl
@[simp] theorem qeA (o i b p:Nat) (K:D->Prop):Fs o (.bptr i b p) K=K (.bptr i b (p+o)):=id rfl
@[congr] theorem qdO {id:Nat} {x:Value} {ka:Bool} {ks:List KK} {k v k' v':D} {r r':Option Res} {H:aa} {K:D->aa->Prop} (h1:k=k') (h2:v=v') (h3:r=r'):Qn id x ka ks k v r H K=Qn id x ka ks k' v' r' H K:=by subst h1;subst h2;subst h3;rfl
@[congr] theorem qdN {ka:Bool} {ks:List KK} {d d' k v k' v':D} {H:aa} {K:D->aa->Prop} (h0:d=d') (h1:k=k') (h2:v=v'):SD ka ks d k v H K=SD ka ks d' k' v' H K:=by subst h0;subst h1;subst h2;rfl
@[congr] theorem qaP {ka:Bool} {ks:List KK} {k v k' v':D} {es es':List D} {K:List D->Prop} (h1:k=k') (h2:v=v') (h3:es=es'):wg ka ks k v es K=wg ka ks k' v' es' K:=by subst h1;subst h2;subst h3;rfl
@[congr] theorem Z6 {ok agg ka:Bool} {ks:List KK} {z:List Value} {k k':D} {es es':List D} {K:D->Prop} (h1:k=k') (h3:es=es'):sL ok agg ka ks z k es K=sL ok agg ka ks z k' es' K:=by subst h1;subst h3;rfl
@[congr] theorem qdP {t:Option Nat} {d d':D} {H:aa} {K:D->aa->Prop} (h:d=d'):SE t d H K=SE t d' H K:=by subst h;rfl
@[congr] theorem qdR {id b:Nat} {r r':Option Res} {H:aa} {K:D->aa->Prop} (h:r=r'):Qo id b r H K=Qo id b r' H K:=by subst h;rfl
@[congr] theorem qdQ {d d':D} {H:aa} {K:D->aa->Prop} (h:d=d'):SG d H K=SG d' H K:=by subst h;rfl
@[congr] theorem qdX {b:Nat} {r r':Option Res} {K:D->Prop} (h:r=r'):Qq b r K=Qq b r' K:=by subst h;rfl
@[congr] theorem qdW {d d':D} {H:aa} {K:D->Prop} (h:d=d'):SJ d H K=SJ d' H K:=by subst h;rfl
@[congr] theorem qgE {x:Value} {r r':Option Res} {K:List D->Prop} (h:r=r'):Z4 x r K=Z4 x r' K:=by subst h;rfl
@[congr] theorem qgD {d d':D} {H:aa} {K:List D->Prop} (h:d=d'):VW d H K=VW d' H K:=by subst h;rfl
@[congr] theorem qdV {len sz:Nat} {x x' i i':D} {K:D->Prop} (h:x=x') (h2:i=i'):SI len sz x i K=SI len sz x' i' K:=by subst h;subst h2;rfl
@[simp ↓] theorem qmu (dst:Option Nat):aM S (.m .mk []) dst σ H K=YL dst H K:=by cases dst <;> rfl
@[simp ↓] theorem qkl (dst:Option Nat):aJ S (.m .mk []) dst σ Hr H K=YL dst H K:=by cases dst <;> rfl
@[simp ↓] theorem qjn (dst:Option Nat) (ka:Bool) (ks:List KK) (x k v:Operand):aM S (.m (.upd ka ks) [x,k,v]) dst σ H K=SD ka ks (ev σ x) (ev σ k) (ev σ v) H K:=by
 show ix (.upd ka ks) [ev σ x,ev σ k,ev σ v] dst H K=_
 unfold SD Qn
 cases ev σ x <;> rfl
@[simp ↓] theorem qjo (dst:Option Nat) (x:Operand):aM S (.m .rng [x]) dst σ H K=SE dst (ev σ x) H K:=by
 show ix .rng [ev σ x] dst H K=_
 unfold SE
 cases dst <;> rfl
@[simp ↓] theorem qfh (dst:Option Nat) (x:Operand):aM S (.m .next [x]) dst σ H K=SG (ev σ x) H K:=by
 show ix .next [ev σ x] dst H K=_
 unfold SG Qo
 cases ev σ x <;> rfl
@[simp ↓] theorem qcm (dst:Option Nat) (x:Operand):aM S (.m .entry [x]) dst σ H K=SJ (ev σ x) H (fun d=> K d H):=by
 show ix .entry [ev σ x] dst H K=_
 unfold SJ Qq
 cases ev σ x <;> rfl
@[simp ↓] theorem qfi (dst:Option Nat) (ok agg ka:Bool) (ks:List KK) (z:List Value) (x k:Operand):aM S (.m (.look ok agg ka ks z) [x,k]) dst σ H K=VW (ev σ x) H fun es=> sL ok agg ka ks z (ev σ k) es fun d=> K d H:=by
 rw[<-Nu];rfl
@[simp ↓] theorem qdv (dst:Option Nat) (ok agg ka:Bool) (ks:List KK) (z:List Value) (x k:Operand):aJ S (.m (.look ok agg ka ks z) [x,k]) dst σ Hr H K=VW (ev σ x) Hr fun es=> sL ok agg ka ks z (ev σ k) es fun d=> K d H:=by
 rw[<-Nu];rfl
@[simp ↓] theorem qjp (dst:Option Nat) (x:Operand):aM S (.m .len [x]) dst σ H K=VW (ev σ x) H fun es=> K (.v (.int .i64 es.length)) H:=by
 rw[<-Nu];rfl
@[simp ↓] theorem qfj (dst:Option Nat) (len sz:Nat) (x i:Operand):aM S (.m (.aidx len sz) [x,i]) dst σ H K=SI len sz (ev σ x) (ev σ i) (fun d=> K d H):=by
 show qC (.aidx len sz) [ev σ x,ev σ i] H (fun d=> K d H)=_
 unfold SI
 cases ev σ i <;> first | rfl | skip
 rename_i v
 cases v <;> rfl
end
end Go.Gv

namespace Go.Gv
open Cod (enc dec)
@[simp] theorem qjT (a:D) (es:List D):Mi a (.mp es)=(a= .mp es):=id rfl
theorem EL {a b:D} (ha:Ah a=true) (hb:Ah b=true) (h:F1 a b):a=b:=by
 obtain⟨tp,I,w,x,h1,h2⟩:=h
 have one: ∀d:D,Ah d=true->(∃cs,d= .agg cs)\/ ∃v,d= .v v:=fun d hd=> by
  cases d <;> first | exact .inl ⟨_,rfl⟩ | exact .inr ⟨_,rfl⟩ | (simp[Ah,D.cells,qaa] at hd)
 rcases one a ha with⟨cs,rfl⟩ | ⟨v,rfl⟩ <;> rcases one b hb with⟨cs',rfl⟩ | ⟨v',rfl⟩
 ·obtain⟨xs,rfl,hl,hc⟩:=h1.inv_agg
  obtain⟨ys,he,hl2,hc2⟩:=h2.inv_agg
  have hxy:xs=ys:=by simpa using he
  subst hxy
  have hce:cs=cs':=by
   refine List.ext_getElem (by omega) fun i h3 h4=> ?_
   have hi:i < xs.length:=by omega
   have v1:qaa cs[i]=true:=List.all_eq_true.1 ha _ (by simp[D.cells])
   have v2:qaa cs'[i]=true:=List.all_eq_true.1 hb _ (by simp[D.cells])
   have r1:=(hc i _ _ (List.getElem?_eq_getElem hi) (List.getElem?_eq_getElem h3)).2
   have r2:=(hc2 i _ _ (List.getElem?_eq_getElem hi) (List.getElem?_eq_getElem h4)).2
   generalize cs[i]=p at*
   generalize cs'[i]=q at*
   cases p <;> first | (cases v1;done) | skip
   cases q <;> first | (cases v2;done) | skip
   rw[<-r1.inv_v,<-r2.inv_v]
  rw[hce]
 ·obtain⟨xs,rfl,_,_⟩:=h1.inv_agg
  have:=h2.inv_v
  cases h2 with
  | v _ h _=> simp[Value.oneCell'] at h
 ·obtain⟨xs,rfl,_,_⟩:=h2.inv_agg
  cases h1 with
  | v _ h _=> simp[Value.oneCell'] at h
 ·rw[<-h1.inv_v,<-h2.inv_v]
structure Rc (X:Type) [Cod X] (ka:Bool) (ks:List KK):Prop where
 fit: ∀x:X,GS ka ks (enc x)=true
 pur: ∀x:X,Ah (enc x)=true
section
variable {X:Type} [Cod X] [DecidableEq X]
def bQ (l:List X):List D:=l.map fun x=> .tup [enc x, .v (.bool true)]
def sR (x:X) (l:List X):List X:=if x∈l then l else l++ [x]
@[simp] theorem eh {x y:X} {l:List X} :y∈sR x l↔y=x\/y∈l:=by
 unfold sR
 split
 ·rename_i h
  exact⟨.inr,fun h2=> h2.elim (fun e=> e ▸h) id⟩
 ·simp[or_comm]
theorem sQ {x:X} {l:List X} (h:l.Nodup): (sR x l).Nodup:=by
 unfold sR
 split
 ·exact h
 ·rename_i hx
  rw[List.nodup_append]
  exact⟨h,by simp,fun a ha b hb=> by simp at hb;subst hb;exact fun e=> hx (e ▸ha)⟩
theorem uG {x:X} {v:D} {l:List X} :D.tup [enc x,v] ∈bQ l↔x∈l/\v= .v (.bool true):=by
 simp only[bQ,List.mem_map,D.tup.injEq,List.cons.injEq,and_true]
 exact⟨fun⟨y,h1,h2,h3⟩=> ⟨bj h2 ▸h1,h3.symm⟩,fun⟨h1,h2⟩=> ⟨x,h1,rfl,h2.symm⟩⟩
theorem Ks {d:D} {l:List X} (h:d∈bQ l): ∃x∈l,d= .tup [enc x, .v (.bool true)]:=by
 obtain⟨x,h1,rfl⟩:=List.mem_map.1 h
 exact⟨x,h1,rfl⟩
theorem gm: ∀ {l:List X} {l1 l2:List D} {e:D},bQ l=l1++e::l2-> ∃a x b,l=a++x::b/\l1=bQ a/\e= .tup [enc x, .v (.bool true)]/\l2=bQ b
 | [],l1,l2,e,h=> by
   have:=congrArg List.length h
   simp[bQ] at this
 | y::l, [],l2,e,h=> by
   simp only[bQ,List.map_cons,List.nil_append,List.cons.injEq] at h
   exact⟨[],y,l,rfl,rfl,h.1.symm,h.2.symm⟩
 | y::l,d::l1,l2,e,h=> by
   simp only[bQ,List.map_cons,List.cons_append,List.cons.injEq] at h
   obtain⟨a,x,b,rfl,rfl,h3,h4⟩:=gm (l:=l) h.2
   exact⟨y::a,x,b,rfl,by simp[bQ,h.1],h3,h4⟩
theorem gP (a b:List X):bQ (a++b)=bQ a++bQ b:=by simp[bQ]
theorem Kt {ka:Bool} {ks:List KK} (hK:Rc X ka ks) (l:List X): (bQ l).all (Lj ka ks)=true:=by
 rw[List.all_eq_true]
 intro d hd
 obtain⟨x,_,rfl⟩:=Ks hd
 exact hK.fit x
theorem Vs {ka:Bool} {ks:List KK} (hK:Rc X ka ks) {x:X} {l:List X} {k:D} {K:List D->Prop} (hk:k=enc x) (h:K (bQ (sR x l))):wg ka ks k (.v (.bool true)) (bQ l) K:=by
 subst hk
 refine⟨Kt hK l,hK.fit x,fun l1 k' v' l2 e m=> ?_,fun hn=> ?_⟩
 ·obtain⟨a,y,b,rfl,rfl,h3,rfl⟩:=gm e
  simp only[D.tup.injEq,List.cons.injEq,and_true] at h3
  obtain⟨rfl,rfl⟩:=h3
  have:=bj (EL (hK.pur x) (hK.pur y) m)
  subst this
  rw[<-e]
  have:sR x (a++x::b)=a++x::b:=by unfold sR;rw[if_pos (by simp)]
  rw[this] at h
  exact h
 ·have hx:x∉l:=fun hx=> hn (hK.pur x) _ (uG.2 ⟨hx,rfl⟩)
  have:sR x l=l++ [x]:=by unfold sR;rw[if_neg hx]
  rw[this,gP] at h
  exact h
theorem SN {ok:Bool} {ka:Bool} {ks:List KK} (hK:Rc X ka ks) {x:X} {l:List X} {k:D} {K:D->Prop} (hk:k=enc x) (h:K (XA ok (.v (.bool (decide (x∈l)))) (decide (x∈l)))):
 sL ok false ka ks [.bool false] k (bQ l) K:=by
 subst hk
 refine⟨Kt hK l,hK.fit x,fun k' v hm m=> ?_,fun hn=> ?_⟩
 ·obtain⟨y,hy,e⟩:=Ks hm
  simp only[D.tup.injEq,List.cons.injEq,and_true] at e
  obtain⟨rfl,rfl⟩:=e
  have:=bj (EL (hK.pur x) (hK.pur y) m)
  subst this
  simpa [hy] using h
 ·have hx:x∉l:=fun hx=> hn (hK.pur x) _ (uG.2 ⟨hx,rfl⟩)
  simpa [hx] using h
theorem KS {ok:Bool} {ka:Bool} {ks:List KK} (hK:Rc X ka ks) (x:X) (hM:F1 (enc x) (enc x)) (l:List X) (K:D->Prop):sL ok false ka ks [.bool false] (enc x) (bQ l) K=K (XA ok (.v (.bool (decide (x∈l)))) (decide (x∈l))):=by
 refine propext ⟨fun⟨_,_,h1,h2⟩=> ?_,SN hK rfl⟩
 by_cases hx:x∈l
 ·have:=h1 (enc x) (.v (.bool true)) (uG.2 ⟨hx,rfl⟩) hM
  simpa [hx] using this
 ·have:=h2 fun _ v hm=> hx (uG.1 hm).1
  simpa [hx,J5,rc] using this
end
@[simp] theorem qkB (v:D) (b:Bool):XA false v b=v:=id rfl
end Go.Gv
