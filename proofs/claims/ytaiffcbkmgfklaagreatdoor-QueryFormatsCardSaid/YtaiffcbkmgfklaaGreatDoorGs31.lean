/- A part of the framework and of the walks: W73 W74 W75 W78 W62 W63 T23 C5 W50 W51 W53 W64 W65 W66. -/
import Derived.Test.YtaiffcbkmgfklaaGreatDoorGs30
import Derived.Test.YtaiffcbkmgfklaaGreatDoorGs21
import Derived.Test.YtaiffcbkmgfklaaGreatDoorGs29
import Derived.Test.YtaiffcbkmgfklaaGreatDoorGs28
import Derived.Test.YtaiffcbkmgfklaaGreatDoorGs22
import Derived.Test.YtaiffcbkmgfklaaGreatDoorGs17
set_option linter.unusedSimpArgs false
set_option linter.unusedVariables false
set_option maxRecDepth 100000
set_option linter.unusedSectionVars false

namespace Go.Gv
open Cod (enc dec)
open Go.Proofs
variable {S S0:Nat→Spc}
def lW (s:B):Option B:=if(34:UInt8) ∈s.data.toList then none else some (((⟨#[34]⟩:B) ++s) ++ ⟨#[34]⟩)
def il (z:B×Bool):Option B:=(lW z.1).map fun t=> if z.2 then t++ ⟨#[37,99]⟩ else t
def G0 (x:Cond):Option B:=if x.op=1 then some ⟨#[91,93]⟩ else if x.op=2 then(il (x.val,x.fold)).map fun t=> if x.name=E0 then t else(x.name++ ⟨#[61]⟩) ++t else none
def jy (x:Cond):Prop:=x.op=1∨x.op=2∧x.name=E0
instance (x:Cond):Decidable (jy x):=by unfold jy;infer_instance
def bL (x:Cond) (t:B):B:=if jy x then t else(⟨#[91]⟩ ++t) ++ ⟨#[93]⟩
def YP (p:Pat):Option B:=(G0 p.cond).map fun t=> if p.lab=E0 then bL p.cond t else(p.lab++ ⟨#[58]⟩) ++bL p.cond t
theorem ab (a:Array UInt8):ByteArray.size ⟨a⟩=a.size:=rfl
theorem ag (a b:B): (a++b).size=a.size+b.size:=ByteArray.size_append
theorem jf:mi=1000000:=rfl
theorem eI {b:Nat} {s:ByteArray} {H:ae} (u:Bool) (v:Value) (h0:H 0=some (.tbox 108 b [.v (pv b u), .own 900 v])) (h9:H 900=some (.row v 5 1 (bD s))):Z8 108 5 b s (.tup []) (.tup []) H:=
 ⟨u,v, .same _,h0,h9⟩
abbrev lY:Spc:=QD 108 5 (a1 B) (.tup []) lW
theorem Jt (h1:S fb=Ba) (h2:S aa=s_wstr):nj lm k8 S 108 5 (a1 B) (.tup []) lW:=by
 rintro b u v s z t ht hl
 unfold lW at ht
 split at ht
 ·cases ht
 ·rename_i hn
  cases ht
  have hn': ¬ (34:UInt8) ∈z.data:=fun h=> hn (Array.mem_toList_iff.2 h)
  simp only[ag,ab] at hl
  simp at hl
  simp[lm,k8,h1,h2,hn,hn',ag,ab, -Bool.forall_bool, -Bool.exists_bool]
  have hL:=jf
  exact⟨by omega,by omega,by omega,fun u' v'=> eI u' v' (by simp) (by simp)⟩
abbrev qe:Spc:=QD 108 5 (a2 B Bool) (.tup []) il
theorem En (h1:S aP=lY) (h2:S aa=s_wstr):nj gw gu S 108 5 (a2 B Bool) (.tup []) il:=by
 rintro b u v s ⟨z,fo⟩ t ht hl
 obtain⟨q,hq,ht⟩:=Option.map_eq_some_iff.1 ht
 simp only at hq ht
 cases fo with
 | false=>
   simp at ht
   subst ht
   simp[gw,gu,h1,h2,hq,hl,ag,ab, -Bool.forall_bool, -Bool.exists_bool]
   exact fun u' v'=> eI u' v' (by simp) (by simp)
 | true=>
   simp at ht
   subst ht
   simp only[ag,ab] at hl
   simp at hl
   have hl1:s.size+q.size≤mi:=by omega
   simp[gw,gu,h1,h2,hq,hl1,ag,ab, -Bool.forall_bool, -Bool.exists_bool]
   exact fun u' v'=> ⟨by omega,fun u' v'=> eI u' v' (by simp) (by simp[ByteArray.append_assoc])⟩
abbrev JS:Spc:=QD 108 5 (a1 Cond) (.tup []) G0
theorem Hp (h1:S bQ=qe) (h2:S aa=s_wstr):nj bb ba S 108 5 (a1 Cond) (.tup []) G0:=by
 rintro b u v s x t ht hl
 unfold G0 at ht
 split at ht
 ·rename_i e
  cases ht
  simp only[ab] at hl
  simp at hl
  simp[bb,ba,e,h1,h2,hl,ag,ab, -Bool.forall_bool, -Bool.exists_bool]
  exact fun u' v'=> eI u' v' (by simp) (by simp)
 ·rename_i e1
  split at ht
  ·rename_i e
   obtain⟨q,hq,ht⟩:=Option.map_eq_some_iff.1 ht
   subst ht
   by_cases hn:x.name=E0
   ·rw[if_pos hn] at hl ⊢
    have hn':x.name=⟨#[]⟩:=hn
    simp[bb,ba,e,h1,h2,hl,hn',hq,ag,ab, -Bool.forall_bool, -Bool.exists_bool]
    exact fun u' v'=> eI u' v' (by simp) (by simp)
   ·rw[if_neg hn] at hl ⊢
    have hn': ¬x.name=⟨#[]⟩:=hn
    simp only[ag,ab] at hl
    simp at hl
    simp[bb,ba,e,h1,h2,hn',hq,ag,ab, -Bool.forall_bool, -Bool.exists_bool]
    have hL:=jf
    exact⟨by omega,by omega,fun u' v'=> ⟨by omega,fun u' v'=> eI u' v' (by simp) (by simp[ByteArray.append_assoc])⟩⟩
  ·cases ht
abbrev Ob:Spc:=QD 108 5 (a1 Pat) (.tup []) YP
theorem Eo (h1:S be=JS) (h2:S aa=s_wstr):nj a6 aZ S 108 5 (a1 Pat) (.tup []) YP:=by
 rintro b u v s ⟨op,⟨cop,cname,carg,cval,clab,cfold,ckids⟩,lab,reg,mn,mx,kids⟩ t ht hl
 obtain⟨q,hq,ht⟩:=Option.map_eq_some_iff.1 ht
 simp only at hq ht
 have hL:=jf
 have hop:cop=1∨cop=2∧cname=E0∨cop=2∧ ¬cname=E0:=by
  unfold G0 at hq
  split at hq
  ·exact .inl (by assumption)
  ·split at hq
   ·by_cases h:cname=E0
    ·exact .inr (.inl ⟨by assumption,h⟩)
    ·exact .inr (.inr ⟨by assumption,h⟩)
   ·cases hq
 rcases hop with e | e | e
 ·by_cases hn:lab=E0
  ·rw[if_pos hn] at ht
   subst ht
   have hn':lab=⟨#[]⟩:=hn
   obtain rfl:=e
   unfold bL at hl ⊢
   rw[if_pos (show jy _ from .inl rfl)] at hl ⊢
   simp[a6,aZ,E0,h1,h2,hl,hn',hq,ag,ab, -Bool.forall_bool, -Bool.exists_bool]
   repeat' first | apply And.intro | intro _
   all_goals first | omega | (rename_i u' v';exact eI u' v' (by simp) (by simp[ByteArray.append_assoc]))
  ·rw[if_neg hn] at ht
   subst ht
   have hn': ¬lab=⟨#[]⟩:=hn
   obtain rfl:=e
   unfold bL at hl ⊢
   rw[if_pos (show jy _ from .inl rfl)] at hl ⊢
   simp only[ag,ab] at hl
   simp at hl
   simp[a6,aZ,E0,h1,h2,hl,hn',hq,ag,ab, -Bool.forall_bool, -Bool.exists_bool]
   repeat' first | apply And.intro | intro _
   all_goals first | omega | (rename_i u' v';exact eI u' v' (by simp) (by simp[ByteArray.append_assoc]))
 ·by_cases hn:lab=E0
  ·rw[if_pos hn] at ht
   subst ht
   have hn':lab=⟨#[]⟩:=hn
   obtain⟨rfl,rfl⟩:=e
   have hq:G0 ⟨2,⟨#[]⟩,carg,cval,clab,cfold,ckids⟩=some q:=hq
   unfold bL at hl ⊢
   rw[if_pos (show jy _ from .inr ⟨rfl,rfl⟩)] at hl ⊢
   simp[a6,aZ,E0,h1,h2,hl,hn',hq,ag,ab, -Bool.forall_bool, -Bool.exists_bool]
   repeat' first | apply And.intro | intro _
   all_goals first | omega | (rename_i u' v';exact eI u' v' (by simp) (by simp[ByteArray.append_assoc]))
  ·rw[if_neg hn] at ht
   subst ht
   have hn': ¬lab=⟨#[]⟩:=hn
   obtain⟨rfl,rfl⟩:=e
   have hq:G0 ⟨2,⟨#[]⟩,carg,cval,clab,cfold,ckids⟩=some q:=hq
   unfold bL at hl ⊢
   rw[if_pos (show jy _ from .inr ⟨rfl,rfl⟩)] at hl ⊢
   simp only[ag,ab] at hl
   simp at hl
   simp[a6,aZ,E0,h1,h2,hl,hn',hq,ag,ab, -Bool.forall_bool, -Bool.exists_bool]
   repeat' first | apply And.intro | intro _
   all_goals first | omega | (rename_i u' v';exact eI u' v' (by simp) (by simp[ByteArray.append_assoc]))
 ·by_cases hn:lab=E0
  ·rw[if_pos hn] at ht
   subst ht
   have hn':lab=⟨#[]⟩:=hn
   obtain⟨rfl,e'⟩:=e
   have e'': ¬cname=⟨#[]⟩:=e'
   unfold bL at hl ⊢
   rw[if_neg (show ¬jy _ from fun h=> h.elim (fun h=> by simp at h) fun h=> e' h.2)] at hl ⊢
   simp only[ag,ab] at hl
   simp at hl
   simp[a6,aZ,e'',h1,h2,hl,hn',hq,ag,ab, -Bool.forall_bool, -Bool.exists_bool]
   repeat' first | apply And.intro | intro _
   all_goals first | omega | (rename_i u' v';exact eI u' v' (by simp) (by simp[ByteArray.append_assoc]))
  ·rw[if_neg hn] at ht
   subst ht
   have hn': ¬lab=⟨#[]⟩:=hn
   obtain⟨rfl,e'⟩:=e
   have e'': ¬cname=⟨#[]⟩:=e'
   unfold bL at hl ⊢
   rw[if_neg (show ¬jy _ from fun h=> h.elim (fun h=> by simp at h) fun h=> e' h.2)] at hl ⊢
   simp only[ag,ab] at hl
   simp at hl
   simp[a6,aZ,e'',h1,h2,hl,hn',hq,ag,ab, -Bool.forall_bool, -Bool.exists_bool]
   repeat' first | apply And.intro | intro _
   all_goals first | omega | (rename_i u' v';exact eI u' v' (by simp) (by simp[ByteArray.append_assoc]))
end Go.Gv

namespace Go.Gv
open Cod (enc dec)
open Go.Proofs
variable {S S0:Nat→Spc}
def eX (p:Bool) (t:B):B:=if p then(⟨#[40]⟩ ++t) ++ ⟨#[41]⟩ else t
def Hm (CT:List D→Option B) (i b:Nat) (ds:List D):Option B:=match ds with
 | [.cptr [.bptr j b' 0] 0, .cptr cs 0]=> if j=i∧b'=b then CT cs else none
 | _=> none
def Xi (CT:Nat→List D→Option B) (i b:Nat) (ds:List D):Option B:=match ds with
 | [.bptr i' b1 0, .v (.bool p), .clo g [.cptr [.bptr j b' 0] 0, .cptr cs 0]]=> if i'=i∧b1=b∧j=i∧b'=b then(CT g cs).map (eX p) else none
 | _=> none
abbrev pM (CT:List D→Option B):Spc:=qdv 108 5 (Hm CT) (.tup [])
abbrev pL (CT:Nat→List D→Option B):Spc:=qdv 108 5 (Xi CT) (.tup [])
theorem Ym (CT:List D→Option B) (d i b:Nat) (cs:List D) (H:ae) (K:D→ae→Prop):YH 108 5 (.tup []) (fun t:B=> some t) i b (H i) (H 900) (CT cs) H K→(pM CT).pt d [.cptr [.bptr i b 0] 0, .cptr cs 0] H K:=fun h=>
 PP (i:=i) (b:=b) (by rw[show Hm CT i b [.cptr [.bptr i b 0] 0, .cptr cs 0]=CT cs by simp[Hm]];exact h)
theorem PQ (CT:Nat→List D→Option B) (d i b g:Nat) (p:Bool) (cs:List D) (H:ae) (K:D→ae→Prop):YH 108 5 (.tup []) (fun t:B=> some t) i b (H i) (H 900) ((CT g cs).map (eX p)) H K→(pL CT).pt d [.bptr i b 0, .v (.bool p), .clo g [.cptr [.bptr i b 0] 0, .cptr cs 0]] H K:=fun h=>
 PP (i:=i) (b:=b) (by rw[show Xi CT i b [.bptr i b 0, .v (.bool p), .clo g [.cptr [.bptr i b 0] 0, .cptr cs 0]]=(CT g cs).map (eX p) by simp[Xi]];exact h)
theorem CO {i b:Nat} {s:ByteArray} {H:ae} (u:Bool) (v:Value) (h0:H i=some (.tbox 108 b [.v (pv b u), .own 900 v])) (h9:H 900=some (.row v 5 1 (bD s))):qct 108 5 i b s (.tup []) (.tup []) H:=
 ⟨u,v, .same _,h0,h9⟩
theorem rC (CT:Nat→List D→Option B) (h1:S aa=s_wstr) (h2: ∀g cs t,CT g cs=some t→S g=pM (CT g)):CW iT iG S 108 5 (Xi CT) (.tup []):=by
 intro i b u v s ds t hi hg hl
 have hi': ¬900=i:=fun e=> hi e.symm
 unfold Xi at hg
 split at hg
 ·rename_i i' b1 p g j b' cs
  split at hg
  ·rename_i he
   obtain⟨rfl,rfl,rfl,rfl⟩:=he
   obtain⟨q,hq,rfl⟩:=Option.map_eq_some_iff.1 hg
   have hL:=jf
   have h3:=h2 _ _ _ hq
   cases p with
   | false=>
     simp only[eX,Bool.false_eq_true,if_false] at hl ⊢
     simp[iT,iG]
     rw[h3]
     refine Ym _ _ _ _ _ _ _ ?_
     simp[hi,hi',hq,hl, -Bool.forall_bool, -Bool.exists_bool]
     exact fun u' v'=> CO u' v' (by simp) (by simp[hi'])
   | true=>
     simp only[eX,if_true] at hl ⊢
     simp only[ag,ab] at hl
     simp at hl
     simp[iT,iG,h1,hi,hi',ab, -Bool.forall_bool, -Bool.exists_bool]
     refine⟨by omega,fun u' v'=> ?_⟩
     rw[h3]
     refine Ym _ _ _ _ _ _ _ ?_
     simp[hi,hi',hq,ag,ab, -Bool.forall_bool, -Bool.exists_bool]
     repeat' first | apply And.intro | intro _
     all_goals first | omega | (rename_i u' v';exact CO u' v' (by simp) (by simp[hi',ByteArray.append_assoc]))
  ·cases hg
 ·cases hg
def H5 (op:Int) (i:Nat):B:=if i=0 then E0 else if op=5 then⟨#[32,124]⟩ ++ ⟨#[32]⟩ else⟨#[32]⟩
def Bw (op:Int) (k:Pat):Bool:=decide (k.op=5) || (decide (k.op=4) && decide (op=4))
def CG (f:Pat→Option B) (op:Int):Nat→List Pat→Option B
 | _, []=> some E0
 | i,k::ks=> (f k).bind fun t=> (CG f op (i+1) ks).map fun r=> (H5 op i++eX (Bw op k) t) ++r
def TD (f:Pat→Option B) (p:Pat):Option B:=
 if p.op=1 then YP p else if p.op=2 then some ((⟨#[60]⟩ ++p.reg) ++ ⟨#[62]⟩) else if p.op=3 then some ((⟨#[60,47]⟩ ++p.reg) ++ ⟨#[62]⟩) else
 if p.op=4∨p.op=5 then CG f p.op 0 p.kids else none
def vS:Nat→Pat→Option B
 | 0=> fun _=> none
 | n+1=> TD (vS n)
def rH (T:Pat→Option B) (cs:List D):Option B:=if cs.length=13 then(dec (X:=Pat) (.agg cs)).bind T else none
abbrev qf (T:Pat→Option B):Spc:=QD 108 5 (a1 Pat) (.tup []) T
theorem qb (T:Pat→Option B) (h1:S aU=qf T):CW gD gz S 108 5 (Hm (rH T)) (.tup []):=by
 intro i b u v s ds t hi hg hl
 have hi': ¬900=i:=fun e=> hi e.symm
 unfold Hm at hg
 split at hg
 ·rename_i j b' cs
  split at hg
  ·rename_i he
   obtain⟨rfl,rfl⟩:=he
   unfold rH at hg
   split at hg
   ·rename_i h13
    obtain⟨p,hd,ht⟩:=Option.bind_eq_some_iff.1 hg
    have htk:List.take 13 cs=cs:=List.take_of_length_le (by omega)
    simp[gD,gz,h1,h13,htk,hd,ht,hi,hi',hl, -Bool.forall_bool, -Bool.exists_bool]
    exact fun u' v'=> CO u' v' (by simp) (by simp[hi'])
   ·cases hg
  ·cases hg
 ·cases hg
end Go.Gv

namespace Go.Gv
open Cod (enc dec)
open Go.Proofs
variable {S S0:Nat→Spc}
def qaa (T:Pat→Option B) (g:Nat):List D→Option B:=if g=bh then rH T else fun _=> none
theorem dr (t:B): (⟨#[]⟩:B) ++t=t:=by
 apply ByteArray.ext
 show((⟨#[]⟩:B) ++t).data=_
 rw[ByteArray.data_append]
 simp
theorem aQ (t:B):t++ (⟨#[]⟩:B)=t:=by
 apply ByteArray.ext
 show(t++ (⟨#[]⟩:B)).data=_
 rw[ByteArray.data_append]
 simp
theorem OJ {f:Pat→Option B} {op:Int} {i:Nat} {ks:List Pat} {k:Pat} (hx:ks[i]?=some k) {r:B} (h:CG f op i (ks.drop i)=some r):
 ∃t r',f k=some t∧CG f op (i+1) (ks.drop (i+1))=some r'∧r=(H5 op i++eX (Bw op k) t) ++r':=by
 have hd:ks.drop i=k::ks.drop (i+1):=ek hx
 rw[hd,CG] at h
 obtain⟨t,h1,h⟩:=Option.bind_eq_some_iff.1 h
 obtain⟨r',h2,h⟩:=Option.map_eq_some_iff.1 h
 exact⟨t,r',h1,h2,h.symm⟩
theorem AV (T:Pat→Option B) (h1:S cE=Ob) (h2:S aa=s_wstr) (h3:S aH=pL (qaa T)):
 nj bd bc S 108 5 (a1 Pat) (.tup []) (TD T):=by
 rintro b u v s ⟨op,cond,lab,reg,mn,mx,kids⟩ t ht hl
 have hL:=jf
 unfold TD at ht
 simp only at ht
 split at ht
 ·rename_i e
  subst e
  simp[bd,bc,h1,ht,hl, -Bool.forall_bool, -Bool.exists_bool]
  exact fun u' v'=> eI u' v' (by simp) (by simp)
 ·rename_i n1
  split at ht
  ·rename_i e
   subst e
   cases ht
   simp only[ag,ab] at hl
   simp at hl
   simp[bd,bc,h2,ag,ab, -Bool.forall_bool, -Bool.exists_bool]
   refine⟨by omega,by omega,by omega,fun u' v'=> eI u' v' (by simp) (by simp)⟩
  ·rename_i n2
   split at ht
   ·rename_i e
    subst e
    cases ht
    simp only[ag,ab] at hl
    simp at hl
    simp[bd,bc,h2,ag,ab, -Bool.forall_bool, -Bool.exists_bool]
    refine⟨by omega,by omega,by omega,fun u' v'=> eI u' v' (by simp) (by simp)⟩
   ·rename_i n3
    split at ht
    ·rename_i h45
     have n6: ¬op=6:=by omega
     simp[bd,bc,n1,n2,n3,n6, -Bool.forall_bool, -Bool.exists_bool]
     intro hkl
     refine aw (X:=Bool×Value×B×B) [2,3,10] [] kids.length (fun k x=> CG T op k (kids.drop k)=some x.2.2.2∧x.2.2.1++x.2.2.2=t) (fun x=> []) (fun x=> [(0, .tbox 108 b [.v (pv b x.1), .own 900 x.2.1]),(900, .row x.2.1 5 1 (bD (s++x.2.2.1)))]) (u,v,E0,t) (by simp) (by simp) (by omega) (by simp) (by simp) ?_ (by simp) (by simp[E0,aQ]) ?_ ?_
     ·refine⟨ht,?_⟩
      simp[E0,dr]
     ·rintro k ⟨u1,v1,acc,r⟩ hk ⟨q1,q2⟩
      simp only at q1 q2
      obtain⟨x,hx⟩:=cz hk
      obtain⟨_,hgx⟩:=List.getElem?_eq_some_iff.1 hx
      obtain⟨tk,r',c1,c2,rfl⟩:=OJ hx q1
      rw[←q2] at hl
      simp only[ag] at hl
      have inn: ∀ (s0:B) (pb:Bool) (u2:Bool) (v2:Value) (H:ae) (K:D→ae→Prop),H 0=some (.tbox 108 b [.v (pv b u2), .own 900 v2])→H 900=some (.row v2 5 1 (bD s0))→s0=s++ (acc++H5 op k)→pb=Bw op x→
       (∀u3 v3,K (.tup []) (aq (aq H 900 (some (.row v3 5 1 (bD (s++ (acc++ (H5 op k++eX (Bw op x) tk))))))) 0 (some (.tbox 108 b [.v (pv b u3), .own 900 v3]))))→
       (S aH).pt 49 [.bptr 0 b 0, .v (.bool pb), .clo bh [.cptr [.bptr 0 b 0] 0, .cptr [D.v (Value.int IntKind.i64 x.op),D.v (Value.int IntKind.i64 x.cond.op),
         D.v (Value.string x.cond.name),D.v (Value.string x.cond.arg),D.v (Value.string x.cond.val),D.v (Value.string x.cond.lab),D.v (Value.bool x.cond.fold),D.list 7 (List.map enc x.cond.kids),
         D.v (Value.string x.lab),D.v (Value.string x.reg),D.v (Value.int IntKind.i64 x.mn),D.v (Value.int IntKind.i64 x.mx),D.list 13 (List.map enc x.kids)] 0]] H K:=by
       intro s0 pb u2 v2 H K g0 g9 hs hp hK
       rw[h3]
       refine PQ _ _ _ _ _ _ _ _ _ ?_
       have hct:qaa T bh [D.v (Value.int IntKind.i64 x.op),D.v (Value.int IntKind.i64 x.cond.op),
        D.v (Value.string x.cond.name),D.v (Value.string x.cond.arg),D.v (Value.string x.cond.val),D.v (Value.string x.cond.lab),D.v (Value.bool x.cond.fold),D.list 7 (List.map enc x.cond.kids),
        D.v (Value.string x.lab),D.v (Value.string x.reg),D.v (Value.int IntKind.i64 x.mn),D.v (Value.int IntKind.i64 x.mx),D.list 13 (List.map enc x.kids)]=some tk:=by
        simp[qaa,rH,c1]
       rw[hct,g0,g9,hp]
       simp[-Bool.forall_bool, -Bool.exists_bool]
       refine⟨?_,fun u3 v3=> ?_⟩
       ·rw[hs]
        simp only[ag]
        omega
       ·have:=hK u3 v3
        rw[hs]
        simp only[ByteArray.append_assoc] at this ⊢
        exact this
      have eq3: (acc++ (H5 op k++eX (Bw op x) tk)) ++r'=t:=by
       rw[←q2]
       simp[ByteArray.append_assoc]
      by_cases hk0:k=0
      ·subst hk0
       have c2':CG T op 1 kids.tail=some r':=by simpa using c2
       have hsep:H5 op 0=⟨#[]⟩:=rfl
       simp[hk,hx,hgx,h2,ab, -Bool.forall_bool, -Bool.exists_bool]
       refine⟨fun h5=> ⟨fun h4=> ?_,fun h4=> ?_⟩,fun h5=> ?_⟩
       ·refine inn (s++acc) _ u1 v1 _ _ (by simp) (by simp) (by rw[hsep,aQ]) (by simp[Bw,h4,h5]) fun u3 v3=> ⟨u3,v3,_,⟨r',c2',eq3⟩, .inl (by simp), .inl (by simp)⟩
       ·refine inn (s++acc) _ u1 v1 _ _ (by simp) (by simp) (by rw[hsep,aQ]) (by simp[Bw,h4,h5]) fun u3 v3=> ⟨u3,v3,_,⟨r',c2',eq3⟩, .inl (by simp), .inl (by simp)⟩
       ·refine inn (s++acc) _ u1 v1 _ _ (by simp) (by simp) (by rw[hsep,aQ]) (by simp[Bw,h5]) fun u3 v3=> ⟨u3,v3,_,⟨r',c2',eq3⟩, .inl (by simp), .inl (by simp)⟩
      ·have hk1:0 < k:=by omega
       rcases h45 with rfl | rfl
       ·have hsep:H5 4 k=⟨#[32]⟩:=by simp[H5,hk0]
        rw[hsep] at hl
        simp only[ab] at hl
        simp at hl
        simp[hk,hx,hgx,h2,hk1,ab,ag, -Bool.forall_bool, -Bool.exists_bool]
        refine⟨by omega,fun u4 v4=> ⟨fun h5=> ⟨fun h4=> ?_,fun h4=> ?_⟩,fun h5=> ?_⟩⟩
        ·refine inn (s++acc++ ⟨#[32]⟩) _ u4 v4 _ _ (by simp) (by simp) (by rw[hsep,ByteArray.append_assoc]) (by simp[Bw,h4,h5]) fun u3 v3=> ⟨u3,v3,_,⟨r',c2,eq3⟩, .inl (by simp), .inl (by simp)⟩
        ·refine inn (s++acc++ ⟨#[32]⟩) _ u4 v4 _ _ (by simp) (by simp) (by rw[hsep,ByteArray.append_assoc]) (by simp[Bw,h4,h5]) fun u3 v3=> ⟨u3,v3,_,⟨r',c2,eq3⟩, .inl (by simp), .inl (by simp)⟩
        ·refine inn (s++acc++ ⟨#[32]⟩) _ u4 v4 _ _ (by simp) (by simp) (by rw[hsep,ByteArray.append_assoc]) (by simp[Bw,h5]) fun u3 v3=> ⟨u3,v3,_,⟨r',c2,eq3⟩, .inl (by simp), .inl (by simp)⟩
       ·have hsep:H5 5 k=⟨#[32,124]⟩ ++ ⟨#[32]⟩:=by simp[H5,hk0]
        rw[hsep] at hl
        simp only[ag,ab] at hl
        simp at hl
        simp[hk,hx,hgx,h2,hk1,ab,ag, -Bool.forall_bool, -Bool.exists_bool]
        refine⟨by omega,by omega,fun u4 v4=> ⟨fun h5=> ?_,fun h5=> ?_⟩⟩
        ·refine inn (s++acc++ ⟨#[32,124]⟩ ++ ⟨#[32]⟩) _ u4 v4 _ _ (by simp) (by simp) (by rw[hsep];simp only[ByteArray.append_assoc]) (by simp[Bw,h5]) fun u3 v3=> ⟨u3,v3,_,⟨r',c2,eq3⟩, .inl (by simp), .inl (by simp)⟩
        ·refine inn (s++acc++ ⟨#[32,124]⟩ ++ ⟨#[32]⟩) _ u4 v4 _ _ (by simp) (by simp) (by rw[hsep];simp only[ByteArray.append_assoc]) (by simp[Bw,h5]) fun u3 v3=> ⟨u3,v3,_,⟨r',c2,eq3⟩, .inl (by simp), .inl (by simp)⟩
     ·rintro⟨u1,v1,acc,r⟩ ⟨q1,q2⟩
      simp only at q1 q2
      simp
      rw[List.drop_length,CG] at q1
      cases q1
      refine eI u1 v1 (by simp) ?_
      rw[←q2]
      simp[E0,aQ]
    ·cases ht
end Go.Gv

namespace Go.Gv
open Cod (enc dec)
variable {S S0:Nat→Spc}
theorem NL {σ:Sg} {H:ae} {k j b tw el n:Nat} {cs cs':List D} (hkj:j≠k) (hk:H k=some (.tbox tw b cs)) (hl:cs.length=cs'.length) (hc: ∀ (m:Nat) (c c':D),cs[m]?=some c→cs'[m]?=some c'→FrzTo cZ c c'):
 Wk σ H σ (aq (aq H k (some (.tbox tw b cs'))) j (some (.row (.slice none 0 0) el n []))):=by
 refine Js (Hf:=cZ) id (fun t=> .same _) (fun i r h=> ?_) (fun i j r s _ _ e=> .inl e) (fun i r h=> by simp[cZ] at h)
 by_cases e:i=j
 ·subst e
  simp[aq] at h
  subst h
  exact .inr ⟨rfl,rfl⟩
 ·by_cases e2:i=k
  ·subst e2
   simp[aq,e] at h
   subst h
   exact .inl ⟨_,hk, .inr ⟨rfl,rfl,hl,hc⟩⟩
  ·simp only[aq,e,e2,if_false] at h
   exact .inl ⟨r,h, .inl rfl⟩
theorem Cv {σ:Sg} {H:ae} {k j b tw el:Nat} {cs cs':List D} (hkj:j≠k) (hk:H k=some (.tbox tw b cs)) (hl:cs.length=cs'.length) (hc: ∀ (m:Nat) (c c':D),cs[m]?=some c→cs'[m]?=some c'→FrzTo cZ c c'):
 Wk σ H σ (aq (aq H k (some (.tbox tw b cs'))) j (some (.row (.slice none 0 0) el 1 (bD ⟨#[]⟩)))):=NL hkj hk hl hc
theorem Pv {K:Ex→Sg→ae→Prop} {k:Nat} {b:CC} {σ σ':Sg} {H H':ae} (hw:Wk σ H σ' H') (h:vc S b K σ' H'):vc S (.cut k b) K σ H:=by
 rw[Qe]
 exact⟨_,_,hw,h⟩
def Z7 (n:Nat) (q:Qry):Prop:=(dc q.pat 1 && fT nq q.pat)=true∧q.strat=0∧q.filts= []∧q.glob=GlobE∧Yt q.pat []∧(∀x∈dy q.pat,LC x.cond)∧ ∃t,vS n q.pat=some t∧t.size≤mi∧t.size≠0
abbrev Fj (n:Nat):Spc:=cY (a1 Qry) (Z7 n) (enc (X:=B)) fun q y=> vS n q.pat=some y
theorem Ez (n:Nat) (h0:S0 cT=Bp) (h1:S d9=tA) (h2:S bw=Ok) (h3:S f7=Kf) (h4:S cg=s_leavesQ) (h5:S aC=tB S0)
 (h6:S aU=qf (vS n)) (h7:S cp=s_string):Walk jk je S (a1 Qry) (Z7 n) (enc (X:=B)) fun q y=> vS n q.pat=some y:=by
 rintro⟨p,g,fs,st⟩ ⟨hs,h8,h9,h10,h11,h12,t,h13,h14,h15⟩
 simp only at hs h8 h9 h10 h11 h12 h13
 subst h8;subst h9;subst h10
 have hf:FunOn S0 (.clo cT []) (dy p) fun _=> false:=by
  refine⟨_, [],_,rfl,h0,fun x hx=> ⟨⟨x,by simp,h12 x hx⟩,fun r hr=> ?_⟩⟩
  obtain⟨y,rfl,hy⟩:=hr x (by simp) (h12 x hx)
  rw[hy]
 simp only[Bool.and_eq_true] at hs
 simp[jk,je,hs.1,hs.2,h1,h2,h3,h4,h5,pg, -Bool.forall_bool, -Bool.exists_bool]
 refine .inl ⟨h11,⟨_,hf⟩,fun y hy=> ?_⟩
 have e:y=false:=by
  have hy:y=(dy p).any fun _=> false:=hy _ hf
  rw[hy];simp
 subst e
 refine⟨fun h=> absurd h (by decide),fun _=> ?_⟩
 unfold mu
 simp[GlobE,E0, -Bool.forall_bool, -Bool.exists_bool]
 intro b
 refine Pv (Cv (k:=36) (j:=900) (b:=b) (tw:=108) (el:=5) (cs:= [.v (.pointer none), .v (.slice none 0 0)]) (cs':= [.v (pv b false), .own 900 (.slice none 0 0)]) (by decide) (by simp) (by simp) ?_) ?_
 ·intro m c c' hc hc'
  match m with
  | 0=> simp at hc hc';subst hc;subst hc';exact .same _
  | 1=> simp at hc hc';subst hc;subst hc';exact .nilown _
  | m+2=> simp at hc
 simp[h6,h13,h14,dr,ab, -Bool.forall_bool, -Bool.exists_bool]
 intro u v
 refine aw (X:=Unit) [1,3] [36,900] 0 (fun _ _=> True) (fun _=> []) (fun _=> []) () (by simp) (by simp) (by omega) (by simp) (by simp) trivial (by simp) (by simp) (fun k x hk=> absurd hk (by omega)) (fun _ _=> ?_)
 simp[h7, -Bool.forall_bool, -Bool.exists_bool]
 exact⟨36,b,u,v,t,rfl,by simp,by simp,by decide,⟨h15,h14⟩,gj (Y:=B) t (.same _) rfl⟩
end Go.Gv

namespace Go.Gv
open Cod (enc dec)
variable {S S0:Nat→Spc}
@[simp] abbrev Ei (s:Rdr) (_:Unit):Option (Rdr×Unit):=(wm s).map fun x=> (x,())
abbrev pS:Spc:=VY a0 Zu Ei
theorem pP {b:Nat} {post:Rdr→Bool→Prop} {v:Bool} {H:ae} (s:Rdr) (h0:H 0=some (.box b (dw s))) (hq:post s v):AR enc b post (.v (.bool v)) H:=iC s v (.same _) h0 hq
theorem UV {b:Nat} {post:Rdr→B→Prop} {v:B} {H:ae} (s:Rdr) (h0:H 0=some (.box b (dw s))) (hq:post s v):AR enc b post (.v (.string v)) H:=iC s v (.same _) h0 hq
theorem Hw (h1:S iD=zU):sA kz jW S a0 Zu (fun s z=> ∃r,Ei s z=some r) (fun s z s' y=> Ei s z=some (s',y)):=by
 rintro b s ⟨⟩ ⟨r,hr⟩
 simp only[Ei,wm] at hr
 split at hr
 ·rename_i h
  simp[kz,jW,h1,h.1.1,h.1.2,h.2,DX]
  exact iC ⟨s.txt,(ge s.txt s.fin.toNat).2,(ge s.txt s.fin.toNat).1.kind,(ge s.txt s.fin.toNat).1.text,(ge s.txt s.fin.toNat).1.pos⟩ () (.same _) (by simp) (by simp[wm,h])
 ·cases hr
@[simp] abbrev Eh (s:Rdr) (_:Unit):Option (Rdr×VM):=(IM s).map fun x=> (s,x)
abbrev J0:Spc:=VY a0 (enc (X:=VM)) Eh
theorem Hv (h1:S iD=zU):sA kw jV S a0 (enc (X:=VM)) (fun s z=> ∃r,Eh s z=some r) (fun s z s' y=> Eh s z=some (s',y)):=by
 rintro b s ⟨⟩ ⟨r,hr⟩
 simp only[Eh,IM] at hr
 split at hr
 ·rename_i h
  simp[kw,jV,h1,h.1.1,h.1.2,h.2,DX]
  exact fun _=> iC s (ge s.txt s.fin.toNat).1 (.same _) (by simp) (by simp[IM,h])
 ·cases hr
@[simp] abbrev Lh (s:Rdr) (t:B):Option (Rdr×Bool):=some (s,ox s t)
abbrev mN:Spc:=VY (a1 B) (enc (X:=Bool)) Lh
theorem Hu:sA ku jU S (a1 B) (enc (X:=Bool)) (fun s z=> ∃r,Lh s z=some r) (fun s z s' y=> Lh s z=some (s',y)):=by
 rintro b s t ⟨r,hr⟩
 simp[ku,jU]
 refine⟨fun hk=> pP s (by simp) (by simp[ox,hk]),fun hk=> pP s (by simp) (by simp[ox,hk])⟩
@[simp] abbrev Eg (s:Rdr) (t:B):Option (Rdr×Bool):=uH s t
abbrev cb:Spc:=VY (a1 B) (enc (X:=Bool)) Eg
theorem Ht (h1:S a8=pS) (h2:S aM=mN):sA gY gL S (a1 B) (enc (X:=Bool)) (fun s z=> ∃r,Eg s z=some r) (fun s z s' y=> Eg s z=some (s',y)):=by
 rintro b s t ⟨r,hr⟩
 have hr0:=hr
 simp only[Eg,uH] at hr
 split at hr
 ·rename_i h
  obtain⟨x,hx,rfl⟩:=Option.map_eq_some_iff.1 hr
  simp[gY,gL,h1,h2,h,hx]
  exact pP x (by simp) (by simp[uH,h,hx])
 ·rename_i h
  simp[gY,gL,h1,h2,h]
  exact pP s (by simp) (by simp[uH,h])
@[simp] abbrev Lg (s:Rdr) (l:List B):Option (Rdr×Bool):=some (s,rB s l)
abbrev tq:Spc:=VY (a1 (List B)) (enc (X:=Bool)) Lg
theorem Hs (h1:S dK=tv):sA kt jT S (a1 (List B)) (enc (X:=Bool)) (fun s z=> ∃r,Lg s z=some r) (fun s z s' y=> Lg s z=some (s',y)):=by
 rintro b s t ⟨r,hr⟩
 simp[kt,jT,h1]
 refine⟨fun hk=> pP s (by simp) (by simp[rB,hk]),fun hk=> pP s (by simp) (by simp[rB,hk])⟩
@[simp] abbrev Ej (s:Rdr) (_:Unit):Option (Rdr×Bool):=uH s ⟨#[37,99]⟩
abbrev tr:Spc:=VY a0 (enc (X:=Bool)) Ej
theorem Hx (h1:S af=cb):sA kE j1 S a0 (enc (X:=Bool)) (fun s z=> ∃r,Ej s z=some r) (fun s z s' y=> Ej s z=some (s',y)):=by
 rintro b s ⟨⟩ ⟨⟨s',y⟩,hr⟩
 have hr0:=hr
 simp only[Ej] at hr
 simp[kE,j1,h1,hr, -Bool.forall_bool, -Bool.exists_bool]
 exact pP s' (by simp) ⟨rfl,rfl⟩
end Go.Gv

namespace Go.Gv
open Cod (enc dec)
variable {S S0:Nat→Spc}
abbrev zV:Spc:=cY (a2 Int (List Cond)) (fun _=> True) (enc (X:=Cond)) fun x y=> y=Vp x.1 x.2
theorem qcd {op:Int} {l:List Cond} (h:l.length≠1):Vp op l=⟨op,E0,E0,E0,E0,false,l⟩:=by
 match l,h with
 | [],_=> rfl
 | [x],h=> exact absurd rfl h
 | x::y::l,_=> rfl
theorem Ww:Walk qV qw S (a2 Int (List Cond)) (fun _=> True) (enc (X:=Cond)) fun x y=> y=Vp x.1 x.2:=by
 rintro⟨op,l⟩ -
 simp[qV,qw]
 refine fun b _=> ⟨fun h=> ⟨by omega,fun a ha=> ?_⟩,fun h=> ?_⟩
 ·have e:l= [a]:=by
   match l,h,ha with
   | [x],_,ha=> simp at ha;rw[ha]
  exact gj a (by simp) (by rw[e];rfl)
 ·exact gj (⟨op,E0,E0,E0,E0,false,l⟩:Cond) (by simp[E0]) (qcd (by omega)).symm
theorem GJ {H:ae} {o:Int} {n a v l:B} {f:Bool} {d:D} (ks:List Cond) (hd:FrzTo H d (enc ks)):
 FrzTo H (.agg [.v (.int .i64 o), .v (.string n), .v (.string a), .v (.string v), .v (.string l), .v (.bool f),d]) (enc (⟨o,n,a,v,l,f,ks⟩:Cond)):=by
 rw[M0]
 refine .agg rfl fun k x y hx hy=> ?_
 rcases k with _ | _ | _ | _ | _ | _ | _ | k
 ·cases hx;cases hy;exact .same _
 ·cases hx;cases hy;exact .same _
 ·cases hx;cases hy;exact .same _
 ·cases hx;cases hy;exact .same _
 ·cases hx;cases hy;exact .same _
 ·cases hx;cases hy;exact .same _
 ·cases hx;cases hy;exact hd
 ·simp at hx
theorem P6 {X:Type} [Cod X] {H:ae} {d:D} (y:X) (h:FrzTo H d (enc y)):FrzTo H (.list (Cod.wd X) [d]) (enc [y]):=by
 show FrzTo H (.list (Cod.wd X) [d]) (.list (Cod.wd X) [enc y])
 refine .list rfl (fun z hz=> ?_) fun k c c' hc hc'=> ?_
 ·simp at hz;subst hz;exact⟨Cod.kn y,Cod.wid y⟩
 ·rcases k with _ | k
  ·cases hc;cases hc';exact h
  ·simp at hc
theorem Jb {b:Nat} {post:Rdr→Cond→Prop} {H:ae} {o:Int} {n a v l:B} {f:Bool} {d:D} (s:Rdr) (ks:List Cond) (hd:FrzTo (fun i=> if i=0 then none else H i) d (enc ks)) (h0:H 0=some (.box b (dw s))) (hq:post s ⟨o,n,a,v,l,f,ks⟩):
 AR enc b post (.agg [.v (.int .i64 o), .v (.string n), .v (.string a), .v (.string v), .v (.string l), .v (.bool f),d]) H:=iC s (⟨o,n,a,v,l,f,ks⟩:Cond) (GJ ks hd) h0 hq
end Go.Gv

namespace Go.Gv
open Cod (enc dec)
section
variable {Y Z:Type}
variable {P:Program} {S:Nat→Spc} {f:Nat} {im:List Nat} {cc:CC} {rs:List aK} {N:Nat}
end
section
variable {Y Z:Type}
variable {P:Program} {S:Nat→Spc} {f:Nat} {im:List Nat} {cc:CC} {rs:List aK} {N:Nat}
end
end Go.Gv

namespace Go.Gv
open Go.Proofs
-- r23_parser_number while id=0: live [0:p, 1:limit, 2:at, 7:s, 8:n, 9:i] changed [8, 9] res [0]
-- r23_parser_alt while id=0: live [0:p, 2:, 3:l] changed [3] res [0, 2, 6, 13]
-- r23_parser_seq while id=0: live [0:p, 2:, 3:l] changed [3] res [0, 2, 6, 13]
-- r23_parser_rep while id=0: live [0:p, 2:, 3:x] changed [] res [0, 2, 3]
end Go.Gv

namespace Go.Gv
open Cod (enc dec)
variable {S S0:Nat→Spc}
end Go.Gv

namespace Go.Gv
open Cod (enc dec)
variable {S S0:Nat→Spc}
theorem P5 {H:ae} {op o:Int} {n a v l lb rg:B} {f:Bool} {cd d:D} {mn mx:Int} (cks:List Cond) (ks:List Pat) (hc:FrzTo H cd (enc cks)) (hd:FrzTo H d (enc ks)):
 FrzTo H (.agg [.v (.int .i64 op), .v (.int .i64 o), .v (.string n), .v (.string a), .v (.string v), .v (.string l), .v (.bool f),cd, .v (.string lb), .v (.string rg), .v (.int .i64 mn), .v (.int .i64 mx),d]) (enc (⟨op,⟨o,n,a,v,l,f,cks⟩,lb,rg,mn,mx,ks⟩:Pat)):=by
 rw[K2]
 refine .agg rfl fun k x y hx hy=> ?_
 rcases k with _ | _ | _ | _ | _ | _ | _ | _ | _ | _ | _ | _ | _ | k
 ·cases hx;cases hy;exact .same _
 ·cases hx;cases hy;exact .same _
 ·cases hx;cases hy;exact .same _
 ·cases hx;cases hy;exact .same _
 ·cases hx;cases hy;exact .same _
 ·cases hx;cases hy;exact .same _
 ·cases hx;cases hy;exact .same _
 ·cases hx;cases hy;exact hc
 ·cases hx;cases hy;exact .same _
 ·cases hx;cases hy;exact .same _
 ·cases hx;cases hy;exact .same _
 ·cases hx;cases hy;exact .same _
 ·cases hx;cases hy;exact hd
 ·simp at hx
end Go.Gv

namespace Go.Gv
open Cod (enc dec)
variable {S S0:Nat→Spc}
theorem WQ {op:Int} {l:List Pat} (h:l.length≠1):vT op l=⟨op,Cond0,E0,E0,0,0,l⟩:=by
 match l,h with
 | [],_=> rfl
 | [x],h=> exact absurd rfl h
 | x::y::l,_=> rfl
end Go.Gv

namespace Go.Gv
open Cod (enc dec)
variable {S S0:Nat→Spc}
abbrev qj:Spc:=cY (a2 Int (List Pat)) (fun _=> True) (enc (X:=Pat)) fun x y=> y=vT x.1 x.2
theorem NP:Walk nc mR S (a2 Int (List Pat)) (fun _=> True) (enc (X:=Pat)) fun x y=> y=vT x.1 x.2:=by
 rintro⟨op,l⟩ -
 simp[nc,mR]
 refine fun b _=> ⟨fun h=> ⟨by omega,fun a ha=> ?_⟩,fun h=> ?_⟩
 ·have e:l= [a]:=by
   match l,h,ha with
   | [x],_,ha=> simp at ha;rw[ha]
  exact gj a (by simp) (by rw[e];rfl)
 ·exact gj (⟨op,Cond0,E0,E0,0,0,l⟩:Pat) (P5 [] l (.nil _) (by simp)) (WQ (by omega)).symm
@[simp] abbrev Ct (s:Rdr) (i:Bool):Option (Rdr×Bool):=(jI s i).map fun v=> (s,v)
abbrev Bb:Spc:=VY (a1 Bool) (enc (X:=Bool)) Ct
theorem UX {b:Nat} {post:Rdr→Pat→Prop} {H:ae} {op o:Int} {n a v l lb rg:B} {f:Bool} {cd d:D} {mn mx:Int} (s:Rdr) (cks:List Cond) (ks:List Pat) (hc:FrzTo (fun i=> if i=0 then none else H i) cd (enc cks)) (hd:FrzTo (fun i=> if i=0 then none else H i) d (enc ks))
 (h0:H 0=some (.box b (dw s))) (hq:post s ⟨op,⟨o,n,a,v,l,f,cks⟩,lb,rg,mn,mx,ks⟩):
 AR enc b post (.agg [.v (.int .i64 op), .v (.int .i64 o), .v (.string n), .v (.string a), .v (.string v), .v (.string l), .v (.bool f),cd, .v (.string lb), .v (.string rg), .v (.int .i64 mn), .v (.int .i64 mx),d]) H:=
 iC s _ (P5 cks ks hc hd) h0 hq
theorem C7 (h1:S aM=mN) (h2:S br=tq) (h3:S fI=J0):
 sA ep ef S (a1 Bool) (enc (X:=Bool)) (fun s z=> ∃r,Ct s z=some r) (fun s z s' y=> Ct s z=some (s',y)):=by
 rintro b s i ⟨⟨s',y⟩,hr0⟩
 obtain⟨v,q,q1⟩:=Option.map_eq_some_iff.1 hr0
 simp only[Prod.mk.injEq] at q1
 obtain⟨rfl,rfl⟩:=q1
 have q0:=q
 unfold jI at q
 split at q
 ·rename_i hk
  cases q
  obtain⟨tx,fi,kd,te,po⟩:=s
  simp only at hk
  subst hk
  simp[ep,ef]
  exact pP ⟨tx,fi,4,te,po⟩ (by simp) ⟨q0,rfl⟩
 rename_i hk4
 split at q
 ·rename_i hk
  obtain⟨n,hn,q2⟩:=Option.map_eq_some_iff.1 q
  clear q hk4
  obtain⟨tx,fi,kd,te,po⟩:=s
  simp only at hk
  subst hk
  simp[ep,ef,h1,h2,h3,hn, -Bool.forall_bool, -Bool.exists_bool]
  clear h1 h2 h3
  refine⟨fun hi=> ⟨fun hw=> ⟨fun h5=> ?_,fun h5=> ?_⟩,fun hw=> ?_⟩,fun hi=> ?_⟩
  ·exact pP ⟨tx,fi,2,te,po⟩ (by simp) ⟨by rw[q0,←q2];simp[hi,tailL,hw,h5],rfl⟩
  ·exact pP ⟨tx,fi,2,te,po⟩ (by simp) ⟨by rw[q0,←q2];simp[hi,tailL,hw,h5],rfl⟩
  ·exact pP ⟨tx,fi,2,te,po⟩ (by simp) ⟨by rw[q0,←q2];simp[hi,tailL,hw],rfl⟩
  ·exact pP ⟨tx,fi,2,te,po⟩ (by simp) ⟨by rw[q0,←q2];simp[hi],rfl⟩
 ·rename_i hk
  cases q
  simp[ep,ef,h1,h2,h3,hk4,hk, -Bool.forall_bool, -Bool.exists_bool]
  clear h1 h2 h3
  refine⟨fun a1=> ⟨fun a2=> ⟨fun a3=> ?_,fun a3=> ?_⟩,fun a2=> ?_⟩,fun a1=> ?_⟩
  ·exact pP s (by simp) ⟨by rw[q0];simp[a1,a2,a3],rfl⟩
  ·exact pP s (by simp) ⟨by rw[q0];simp[a1,a2,a3],rfl⟩
  ·exact pP s (by simp) ⟨by rw[q0];simp[a1,a2],rfl⟩
  ·exact pP s (by simp) ⟨by rw[q0];simp[a1],rfl⟩
end Go.Gv

namespace Go.Gv
open Cod (enc dec)
variable {S S0:Nat→Spc}
variable (A:Rdr→Bool→Option (Rdr×Pat)) (O:Rdr→Option (Rdr×Cond))
end Go.Gv

namespace Go.Gv
open Cod (enc dec)
variable {S S0:Nat→Spc}
abbrev oz:Spc:=cY a0 (fun _=> True) (enc (X:=List B)) fun _ y=> y=filterL
theorem SA:Walk kG j3 S a0 (fun _=> True) (enc (X:=List B)) fun _ y=> y=filterL:=by
 rintro x -
 simp[kG,j3]
 exact gj (Y:=List B) filterL (.same _) rfl
theorem wR {H:ae} {l l':List D} (h:FzL H l l'):FrzTo H (.agg l) (.agg l'):= .agg h.get.1 h.get.2
def KG:B:=⟨#[60,115,62,32,91,119,111,114,100,61,34,84,104,101,34,37,99,93]⟩
def pz:Pat:=⟨4,Cond0,E0,E0,0,0, [⟨2,Cond0,E0,⟨#[115]⟩,0,0, []⟩,⟨1,⟨2,⟨#[119,111,114,100]⟩,E0,⟨#[84,104,101]⟩,E0,true, []⟩,E0,E0,0,0, []⟩]⟩
end Go.Gv
