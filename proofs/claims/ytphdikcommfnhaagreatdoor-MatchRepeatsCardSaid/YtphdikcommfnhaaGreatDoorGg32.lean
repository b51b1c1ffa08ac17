/- A part of the framework and of the walks: W157 W160 T25 I7. -/
import Derived.RangeFuncNested
import Derived.RangeFuncBound
import Derived.RangeFuncCalls
import Derived.RangeFuncLeaves
import Derived.Shelf.Abstract
import Derived.Shelf.RegionOpen
import Derived.WalkKit
import Derived.OwnWalkIn
import Derived.TacticsInMore
import Derived.LoopNIn
import Derived.LoopIn
import Derived.Test.YtphdikcommfnhaaGreatDoorGg31
import Derived.Test.YtphdikcommfnhaaGreatDoorGg29
import Derived.Test.YtphdikcommfnhaaGreatDoorGg18
set_option linter.unusedSimpArgs false
set_option linter.unusedVariables false
set_option linter.unusedSectionVars false
set_option maxRecDepth 100000

namespace Go.Gv
open Cod (enc dec)
variable {S S0:Nat->Spc}
def featS:List B:=[⟨#[124]⟩,⟨#[124,112,124]⟩,⟨#[124,112,124,113,124]⟩,⟨#[124,113,124]⟩]
def MN(s v:B):Option Bool:=if(featS.any fun z=>decide (z=s))=true/\(v=⟨#[112]⟩\/v=⟨#[113]⟩)then some (s.data.toList.any fun c=>decide (v.data.toList=[c]))else none
structure ND where
 c:Corpus
 tok:Int
 lb:List B
 bd:List Int
def wi(E:ND):Nat->Cond->Option Bool
 | 0=>fun _=>none
 | n+1=>fun x=>
   if x.op=1 then some true else
   if x.op=2 then Bk x.val (sL E.c.toks E.tok (wk E.c.attrs x.name)) x.fold else
   if x.op=3 then MN (sL E.c.toks E.tok (je E.c.attrs x.name)) x.val else
   if x.op=4 then(if fS E.lb (fun z=>decide (z=x.lab)) < 0 then none else match E.bd[(fS E.lb fun z=>decide (z=x.lab)).toNat]? with
    | some o=>some (decide (0<=o) && decide (sL E.c.toks E.tok (je E.c.attrs x.name)=sL E.c.toks o (je E.c.attrs x.arg)))
    | none=>none)else
   if x.op=5 then some (E.c.regs.any (Ho x E.tok))else
   if x.op=6 then(match x.kids with|k::_=>(wi E n k).map not|[]=>none)else
   if(x.kids.all fun k=>(wi E n k).isSome)=true then
    (if x.op=7 then some (!(x.kids.any fun k=>!((wi E n k).getD false)))else some (x.kids.any fun k=>(wi E n k).getD false))
   else none
def qhz(c:Corpus):Prop:=c.toks.length<=100000/\(∀r∈c.toks,r.length<=100000)/\c.attrs.length<=1000
abbrev HZ:=Corpus×Cond×Int×List B×List Int
def qdm(z:HZ):ND:=⟨z.1,z.2.2.1,z.2.2.2.1,z.2.2.2.2⟩
def qdV(n:Nat)(z:HZ):Prop:=qhz z.1/\∃y,wi (qdm z) n z.2.1=some y
def qhg(n:Nat)(z:HZ)(y:Bool):Prop:=wi (qdm z) n z.2.1=some y
abbrev aH:cM HZ:=aE Corpus (a4 Cond Int (List B) (List Int))
abbrev Hd(n:Nat):Spc:=aS aH (qdV n) (enc (X:=Bool)) (qhg n)
def qbs(c:Corpus):List D:=[.list 2 (c.attrs.map enc), .list 1 (c.toks.map enc), .list 4 (c.texts.map enc), .list 4 (c.regs.map enc), .list 4 (c.nodes.map enc), .list 1 (c.heads.map enc), .list 1 (c.rels.map enc)]
theorem Ub(c:Corpus): .agg (qbs c)=enc c:=by simp[qbs]
theorem qdu{x y:Corpus}(h:qbs x=qbs y):x=y:=aL (by rw[<-Ub,<-Ub,h])
def qal(z:HZ):List D:=[.cptr (qbs z.1) 0, .cptr [enc z.2.2.1] 0, .cptr [enc z.2.2.2.1] 0, .cptr [enc z.2.2.2.2] 0]
def qbp(z:HZ):List D:=enc z.2.1::qal z
def qhy(z:HZ):List D:=[enc z.2.1, .cptr [.clo aJ (qal z)] 0]
theorem F7(z z':HZ)(h:qbp z=qbp z'):z=z':=by
 obtain⟨a,b,c,d,e⟩:=z
 obtain⟨a',b',c',d',e'⟩:=z'
 unfold qbp qal at h
 simp only[qt5,D.cptr.injEq,and_true]at h
 rw[aL h.1,qdu h.2.1,aL h.2.2.1,aL h.2.2.2.1,aL h.2.2.2.2]
theorem SF(z z':HZ)(h:qhy z=qhy z'):z=z':=by
 unfold qhy at h
 simp only[qt5,D.cptr.injEq,D.clo.injEq,and_true,true_and]at h
 refine F7 z z' ?_
 unfold qbp
 rw[h.1,h.2]
noncomputable abbrev aH1:cM HZ:=aX qbp F7
noncomputable abbrev qsQ:cM HZ:=aX qhy SF
noncomputable abbrev Ri(n:Nat):Spc:=aS aH1 (qdV n) (enc (X:=Bool)) (qhg n)
noncomputable abbrev Yd(n:Nat):Spc:=aS qsQ (qdV n) (enc (X:=Bool)) fun z y=>∃b,wi (qdm z) n z.2.1=some b/\y=!b
theorem UP(n:Nat)(h1:S io=Hd n):aq jc iD S aH1 (qdV n) (enc (X:=Bool)) (qhg n):=by
 rintro z hz
 rw[wR]
 obtain⟨c,x,tok,lb,bd⟩:=z
 simp[qbp,qal,qbs,jc,iD,h1,hz, -Bool.forall_bool, -Bool.exists_bool]
@[simp] theorem qn5(c:Corpus)(x:Cond)(tok:Int)(lb:List B)(bd:List Int):aH1.dec [.agg [.v (.int .i64 x.op), .v (.string x.name), .v (.string x.arg), .v (.string x.val), .v (.string x.lab), .v (.bool x.fold), .list 7 (x.kids.map enc)], .cptr [.list 2 (c.attrs.map enc), .list 1 (c.toks.map enc), .list 4 (c.texts.map enc), .list 4 (c.regs.map enc), .list 4 (c.nodes.map enc), .list 1 (c.heads.map enc), .list 1 (c.rels.map enc)] 0, .cptr [.v (.int .i64 tok)] 0, .cptr [.list 1 (lb.map enc)] 0, .cptr [.list 1 (bd.map enc)] 0]=some (c,x,tok,lb,bd):=by
 have h:=BH qbp F7 (c,x,tok,lb,bd)
 have e:qbp (c,x,tok,lb,bd)=[.agg [.v (.int .i64 x.op), .v (.string x.name), .v (.string x.arg), .v (.string x.val), .v (.string x.lab), .v (.bool x.fold), .list 7 (x.kids.map enc)], .cptr [.list 2 (c.attrs.map enc), .list 1 (c.toks.map enc), .list 4 (c.texts.map enc), .list 4 (c.regs.map enc), .list 4 (c.nodes.map enc), .list 1 (c.heads.map enc), .list 1 (c.rels.map enc)] 0, .cptr [.v (.int .i64 tok)] 0, .cptr [.list 1 (lb.map enc)] 0, .cptr [.list 1 (bd.map enc)] 0]:=by simp[qbp,qal,qbs]
 rw[<-e]
 exact h
theorem UO(n:Nat)(h1:S aJ=Ri n):aq ja iC S qsQ (qdV n) (enc (X:=Bool)) fun z y=>∃b,wi (qdm z) n z.2.1=some b/\y=!b:=by
 rintro z hz
 rw[wR]
 obtain⟨c,x,tok,lb,bd⟩:=z
 simp[qhy,qal,qbs,ja,iC,h1,hz, -Bool.forall_bool, -Bool.exists_bool]
 exact fun y hy=>hy
abbrev Yf:Spc:=aS (a2 B B) (fun x=>∃b,MN x.1 x.2=some b) (enc (X:=Bool)) fun x y=>MN x.1 x.2=some y
set_option maxHeartbeats 4000000 in
theorem qbL(n:Nat)(h0:S0 aJ=Ri n)(h0':S0 bV=Yd n)(h1:S aJ=Ri n)(h2:S eo=Vb Cond S0)(h3:S ip=He)(h4:S mO=OB)(h5:S ue=SX)(h6:S bv=zI)(h7:S ud=Yf)(h8:S bZ=G9)(h9:S kV=Yi):
 aq lp kP S aH (qdV (n+1)) (enc (X:=Bool)) (qhg (n+1)):=by
 rintro⟨c,x,tok,lb,bd⟩ ⟨⟨z1,z2,z3⟩,y,hy⟩
 simp only at z1 z2 z3
 have hy0:wi ⟨c,tok,lb,bd⟩ (n+1) x=some y:=hy
 have hQ:∀w,w=y->qhg (n+1) (c,x,tok,lb,bd) w:=fun w e=>by subst e;exact hy
 clear hy
 obtain⟨op,name,arg,val,lab,fold,ks⟩:=x
 unfold wi at hy0
 simp only at hy0
 have hval:∀i k:Int,qhz c:=fun _ _=>⟨z1,z2,z3⟩
 simp[lp,kP, -Bool.forall_bool, -Bool.exists_bool]
 refine jj (X:=Unit) [5,6,7,8,9] [] [11] [] (fun _=>True) (fun _=>[(11, .cptr [.clo aJ (qal (c,⟨op,name,arg,val,lab,fold,ks⟩,tok,lb,bd))] 0)]) (fun _=>[]) [] (fun _=>rfl) (by decide) ?_ ?_
 ·simp[qal,qbs]
  exact fun b=> .box rfl
 rintro - -
 simp only[qal,qbs]
 split at hy0
 ·rename_i e;subst e
  obtain rfl:=qtV hy0
  simp[-Bool.forall_bool, -Bool.exists_bool]
  exact hQ _ rfl
 rename_i e1
 split at hy0
 ·rename_i e;subst e
  have hM:qba (val,sL c.toks tok (wk c.attrs name),fold):=⟨y,hy0⟩
  simp[h3,h4,h5,z1,z2,z3,hM, -Bool.forall_bool, -Bool.exists_bool]
  refine⟨z2,fun w hw=>hQ _ (qtV (hw.symm.trans hy0))⟩
 rename_i e2
 split at hy0
 ·rename_i e;subst e
  have hM:∃b,MN (sL c.toks tok (je c.attrs name)) val=some b:=⟨y,hy0⟩
  simp[h6,h4,h7,z1,z2,z3,hM, -Bool.forall_bool, -Bool.exists_bool]
  refine⟨z2,fun w hw=>hQ _ (qtV (hw.symm.trans hy0))⟩
 rename_i e3
 split at hy0
 ·rename_i e;subst e
  split at hy0
  ·cases hy0
  rename_i hj
  obtain⟨j,hjj⟩:∃j,j=fS lb fun z=>decide (z=lab):=⟨_,rfl⟩
  rw[<-hjj]at hj hy0
  cases ho:bd[j.toNat]? with
  | none=>rw[ho]at hy0;cases hy0
  | some o=>
  rw[ho]at hy0
  have hy1:(decide (0<=o) && decide (sL c.toks tok (je c.attrs name)=sL c.toks o (je c.attrs arg)))=y:=qtV hy0
  have j0:0<=j:=by omega
  obtain⟨hjl,hgo⟩:=qtG.1 ho
  have j1:j < (bd.length:Int):=by omega
  by_cases h0o:0<=o
  ·simp[h8,<-hjj,j0,j1,ho,hgo,h0o,h6,h4,z1,z2,z3, -Bool.forall_bool, -Bool.exists_bool]
   exact⟨⟨z2,hQ _ (by rw[<-hy1];simp[h0o])⟩,fun h=>by omega⟩
  ·simp[h8,<-hjj,j0,j1,ho,hgo,h0o, -Bool.forall_bool, -Bool.exists_bool]
   exact fun _=>hQ _ (by rw[<-hy1];simp[h0o])
 rename_i e4
 split at hy0
 ·rename_i e;subst e
  have hy1:=qtV hy0
  simp[h9, -Bool.forall_bool, -Bool.exists_bool]
  exact hQ _ hy1
 rename_i e5
 split at hy0
 ·rename_i e;subst e
  split at hy0
  ·rename_i k ks'
   obtain⟨b,hb,rfl⟩:=qtR.1 hy0
   have hp:qdV n (c,k,tok,lb,bd):=⟨⟨z1,z2,z3⟩,b,hb⟩
   simp[h1,hp, -Bool.forall_bool, -Bool.exists_bool]
   intro w hw
   have hw:wi ⟨c,tok,lb,bd⟩ n k=some w:=hw
   rw[hb]at hw
   cases hw
   exact hQ _ rfl
  ·cases hy0
 rename_i e6
 split at hy0
 rotate_left
 ·cases hy0
 rename_i hall
 have hal:∀k∈ks,∃b,wi ⟨c,tok,lb,bd⟩ n k=some b:=fun k hk=>quB.1 (qtL.1 hall k hk)
 have hf2:FunOn S0 (.clo bV [.cptr [.clo aJ (qal (c,⟨op,name,arg,val,lab,fold,ks⟩,tok,lb,bd))] 0]) ks fun k=>!((wi ⟨c,tok,lb,bd⟩ n k).getD false):=
  uW (f:=fun k=>(c,k,tok,lb,bd)) h0' (fun k _=>BH qhy SF (c,k,tok,lb,bd)) (fun k hk=>⟨⟨z1,z2,z3⟩,hal k hk⟩) (fun k hk y hy=>by
   obtain⟨b,h1,h2⟩:=hy
   have h1:wi ⟨c,tok,lb,bd⟩ n k=some b:=h1
   rw[h2,h1];rfl)
 have hf1:FunOn S0 (.clo aJ (qal (c,⟨op,name,arg,val,lab,fold,ks⟩,tok,lb,bd))) ks fun k=>(wi ⟨c,tok,lb,bd⟩ n k).getD false:=
  uW (f:=fun k=>(c,k,tok,lb,bd)) h0 (fun k _=>BH qbp F7 (c,k,tok,lb,bd)) (fun k hk=>⟨⟨z1,z2,z3⟩,hal k hk⟩) (fun k hk y hy=>by
   have h1:wi ⟨c,tok,lb,bd⟩ n k=some y:=hy
   rw[h1];rfl)
 split at hy0
 ·rename_i e;subst e
  have hy1:=qtV hy0
  simp[h2, -Bool.forall_bool, -Bool.exists_bool]
  exact⟨⟨_,hf2⟩,fun w hw=>hQ _ (by rw[hw _ hf2];exact hy1)⟩
 ·rename_i e7
  have hy1:=qtV hy0
  simp[h2,e1,e2,e3,e4,e5,e6,e7, -Bool.forall_bool, -Bool.exists_bool]
  exact⟨⟨_,hf1⟩,fun w hw=>hQ _ (by rw[hw _ hf1];exact hy1)⟩
end Go.Gv

namespace Go.Gv
open Cod (enc dec)
variable {S S0:Nat->Spc}
def TL(s:B):List B:=if s=⟨#[124,112,124]⟩then[⟨#[112]⟩]else if s=⟨#[124,112,124,113,124]⟩then[⟨#[112]⟩,⟨#[113]⟩]else if s=⟨#[124,113,124]⟩then[⟨#[113]⟩]else[]
abbrev Ou:Spc:=aS (a1 B) (fun s=>s∈featS) (xb (Y:=List B) (Z:=Int)) fun s y=>y=(TL s,0)
set_option maxHeartbeats 1000000 in
theorem NR(h1:S br=AO):vc S bP (rG bN fun r H'=>Fin (xb (Y:=List B) (Z:=Int)) (fun y=>y=([⟨#[112]⟩],0)) r H') (cR ((a1 B).view (⟨#[124,112,124]⟩:B))) bB:=by
 have hv:yz ⟨#[124,112,124]⟩=true:=by decide
 have hsz:(⟨#[124,112,124]⟩:B).size=3:=rfl
 have x1:((⟨#[124,112,124]⟩:B).extract 1 2)=⟨#[112]⟩:=by decide
 simp[bP,bN,h1,hv,hsz, -Bool.forall_bool, -Bool.exists_bool]
 refine⟨by simp[InR],?_⟩
 refine ar (X:=Int×Int×Value×List B) [0] [] (fun z=>z.1=1/\z.2.1=1/\z.2.2.2=([]:List B)\/z.1=1/\z.2.1=2/\z.2.2.2=([]:List B)\/z.1=3/\z.2.1=3/\z.2.2.2=([⟨#[112]⟩]:List B)) (fun z=>[(5, .own 51 z.2.2.1),(6,enc z.1),(7,enc z.2.1)]) (fun z=>[(51, .row z.2.2.1 ay 1 (z.2.2.2.map enc))]) (fun z=>(3 -z.2.1).toNat) (1,1, .slice none 0 0, []) (by simp) (by simp) (by simp[isNilRow]) ?_
 rintro⟨f,i,v,l⟩ hz
 simp only at hz
 rcases hz with⟨rfl,rfl,rfl⟩|⟨rfl,rfl,rfl⟩|⟨rfl,rfl,rfl⟩
 ·simp[hsz,x1, -Bool.forall_bool, -Bool.exists_bool]
  exact⟨by simp[InR],1,2,v, [],by simp,⟨⟨rfl,rfl,rfl⟩, .inl ⟨rfl,rfl⟩⟩,by omega⟩
 ·simp[hsz,x1, -Bool.forall_bool, -Bool.exists_bool]
  exact fun v=>⟨by simp[InR],3,3,v, [⟨#[112]⟩],by simp,⟨⟨rfl,rfl,rfl⟩, .inl ⟨rfl,rfl⟩⟩,by omega⟩
 ·simp[hsz, -Bool.forall_bool, -Bool.exists_bool]
  refine ar (X:=Int) [5] [51] (fun i=>i=1) (fun i=>[(8,enc i)]) (fun _=>[]) (fun i=>(3 -i).toNat) 1 (by simp) (by simp) (by simp) ?_
  rintro i hi
  subst hi
  simp[-Bool.forall_bool, -Bool.exists_bool]
  exact gP (l:=([⟨#[112]⟩]:List B)) ay rfl
set_option maxHeartbeats 1000000 in
theorem Jn(h1:S br=AO):vc S bP (rG bN fun r H'=>Fin (xb (Y:=List B) (Z:=Int)) (fun y=>y=([⟨#[112]⟩,⟨#[113]⟩],0)) r H') (cR ((a1 B).view (⟨#[124,112,124,113,124]⟩:B))) bB:=by
 have hv:yz ⟨#[124,112,124,113,124]⟩=true:=by decide
 have hsz:(⟨#[124,112,124,113,124]⟩:B).size=5:=rfl
 have x1:((⟨#[124,112,124,113,124]⟩:B).extract 1 2)=⟨#[112]⟩:=by decide
 have x3:((⟨#[124,112,124,113,124]⟩:B).extract 3 4)=⟨#[113]⟩:=by decide
 simp[bP,bN,h1,hv,hsz, -Bool.forall_bool, -Bool.exists_bool]
 refine⟨by simp[InR],?_⟩
 refine ar (X:=Int×Int×Value×List B) [0] [] (fun z=>z.1=1/\z.2.1=1/\z.2.2.2=([]:List B)\/z.1=1/\z.2.1=2/\z.2.2.2=([]:List B)\/z.1=3/\z.2.1=3/\z.2.2.2=([⟨#[112]⟩]:List B)\/z.1=3/\z.2.1=4/\z.2.2.2=([⟨#[112]⟩]:List B)\/z.1=5/\z.2.1=5/\z.2.2.2=([⟨#[112]⟩,⟨#[113]⟩]:List B)) (fun z=>[(5, .own 51 z.2.2.1),(6,enc z.1),(7,enc z.2.1)]) (fun z=>[(51, .row z.2.2.1 ay 1 (z.2.2.2.map enc))]) (fun z=>(5 -z.2.1).toNat) (1,1, .slice none 0 0, []) (by simp) (by simp) (by simp[isNilRow]) ?_
 rintro⟨f,i,v,l⟩ hz
 simp only at hz
 rcases hz with⟨rfl,rfl,rfl⟩|⟨rfl,rfl,rfl⟩|⟨rfl,rfl,rfl⟩|⟨rfl,rfl,rfl⟩|⟨rfl,rfl,rfl⟩
 ·simp[hsz,x1,x3, -Bool.forall_bool, -Bool.exists_bool]
  exact⟨by simp[InR],1,2,v, [],by simp,⟨⟨rfl,rfl,rfl⟩, .inl ⟨rfl,rfl⟩⟩,by omega⟩
 ·simp[hsz,x1,x3, -Bool.forall_bool, -Bool.exists_bool]
  exact fun v=>⟨by simp[InR],3,3,v, [⟨#[112]⟩],by simp,⟨⟨rfl,rfl,rfl⟩, .inl ⟨rfl,rfl⟩⟩,by omega⟩
 ·simp[hsz,x1,x3, -Bool.forall_bool, -Bool.exists_bool]
  exact⟨by simp[InR],3,4,v, [⟨#[112]⟩],by simp,⟨⟨rfl,rfl,rfl⟩, .inl ⟨rfl,rfl⟩⟩,by omega⟩
 ·simp[hsz,x1,x3, -Bool.forall_bool, -Bool.exists_bool]
  exact fun v=>⟨by simp[InR],5,5,v, [⟨#[112]⟩,⟨#[113]⟩],by simp,⟨⟨rfl,rfl,rfl⟩, .inl ⟨rfl,rfl⟩⟩,by omega⟩
 ·simp[hsz, -Bool.forall_bool, -Bool.exists_bool]
  refine ar (X:=Int) [5] [51] (fun i=>i=1\/i=2) (fun i=>[(8,enc i)]) (fun _=>[]) (fun i=>(3 -i).toNat) 1 (by simp) (by simp) (by simp) ?_
  rintro i hi
  rcases hi with rfl|rfl
  ·simp[-Bool.forall_bool, -Bool.exists_bool]
   exact⟨by simp[InR],by decide,fun _=>by simp[InR]⟩
  ·simp[-Bool.forall_bool, -Bool.exists_bool]
   exact gP (l:=([⟨#[112]⟩,⟨#[113]⟩]:List B)) ay rfl
set_option maxHeartbeats 1000000 in
theorem NQ(h1:S br=AO):vc S bP (rG bN fun r H'=>Fin (xb (Y:=List B) (Z:=Int)) (fun y=>y=([⟨#[113]⟩],0)) r H') (cR ((a1 B).view (⟨#[124,113,124]⟩:B))) bB:=by
 have hv:yz ⟨#[124,113,124]⟩=true:=by decide
 have hsz:(⟨#[124,113,124]⟩:B).size=3:=rfl
 have x1:((⟨#[124,113,124]⟩:B).extract 1 2)=⟨#[113]⟩:=by decide
 simp[bP,bN,h1,hv,hsz, -Bool.forall_bool, -Bool.exists_bool]
 refine⟨by simp[InR],?_⟩
 refine ar (X:=Int×Int×Value×List B) [0] [] (fun z=>z.1=1/\z.2.1=1/\z.2.2.2=([]:List B)\/z.1=1/\z.2.1=2/\z.2.2.2=([]:List B)\/z.1=3/\z.2.1=3/\z.2.2.2=([⟨#[113]⟩]:List B)) (fun z=>[(5, .own 51 z.2.2.1),(6,enc z.1),(7,enc z.2.1)]) (fun z=>[(51, .row z.2.2.1 ay 1 (z.2.2.2.map enc))]) (fun z=>(3 -z.2.1).toNat) (1,1, .slice none 0 0, []) (by simp) (by simp) (by simp[isNilRow]) ?_
 rintro⟨f,i,v,l⟩ hz
 simp only at hz
 rcases hz with⟨rfl,rfl,rfl⟩|⟨rfl,rfl,rfl⟩|⟨rfl,rfl,rfl⟩
 ·simp[hsz,x1, -Bool.forall_bool, -Bool.exists_bool]
  exact⟨by simp[InR],1,2,v, [],by simp,⟨⟨rfl,rfl,rfl⟩, .inl ⟨rfl,rfl⟩⟩,by omega⟩
 ·simp[hsz,x1, -Bool.forall_bool, -Bool.exists_bool]
  exact fun v=>⟨by simp[InR],3,3,v, [⟨#[113]⟩],by simp,⟨⟨rfl,rfl,rfl⟩, .inl ⟨rfl,rfl⟩⟩,by omega⟩
 ·simp[hsz, -Bool.forall_bool, -Bool.exists_bool]
  refine ar (X:=Int) [5] [51] (fun i=>i=1) (fun i=>[(8,enc i)]) (fun _=>[]) (fun i=>(3 -i).toNat) 1 (by simp) (by simp) (by simp) ?_
  rintro i hi
  subst hi
  simp[-Bool.forall_bool, -Bool.exists_bool]
  exact gP (l:=([⟨#[113]⟩]:List B)) ay rfl
theorem Fv(h1:S br=AO):aq bP bN S (a1 B) (fun s=>s∈featS) (xb (Y:=List B) (Z:=Int)) fun s y=>y=(TL s,0):=by
 rintro s hs
 have hs:s∈featS:=hs
 simp only[featS,qtM,quc,or_false]at hs
 rcases hs with rfl|rfl|rfl|rfl
 ·have hv:yz ⟨#[124]⟩=true:=by decide
  have e:TL ⟨#[124]⟩=[]:=by decide
  simp[bP,bN,h1,hv,e, -Bool.forall_bool, -Bool.exists_bool]
 ·exact NR h1
 ·exact Jn h1
 ·exact NQ h1
abbrev Yg:Spc:=aS (a2 (List B) B) (fun _=>True) (enc (X:=Bool)) fun x y=>y=kb x.1 x.2
theorem AB:aq jS jE S (a2 (List B) B) (fun _=>True) (enc (X:=Bool)) fun x y=>y=kb x.1 x.2:=by
 rintro⟨l,s⟩ -
 simp[jS,jE, -Bool.forall_bool, -Bool.exists_bool]
 intro hl
 refine ai (X:=Unit) [1,7] [] l.length (fun k _=>∀x∈l.take k,decide (x=s)=false) (fun _=>[]) (fun _=>[]) () (by simp) (by simp) (by omega) (by simp) (by simp) (by simp) (by simp) (by simp) ?_ ?_
 ·intro k _ hk hP
  obtain⟨x,hx⟩:=sE hk
  obtain⟨_,hgx⟩:=qtG.1 hx
  simp[hk,hx,hgx, -Bool.forall_bool, -Bool.exists_bool]
  refine⟨fun h=>?_,fun h=>?_⟩
  ·have:kb l s=true:=quN.2 ⟨x,qtJ hx,by simp[h]⟩
   exact this
  ·rw[bM hx]
   intro z hz
   rcases qtK.1 hz with hz|hz
   ·have:=hP z hz
    simpa using this
   ·simp at hz;subst hz
    exact h
 ·intro _ hP
  rw[quj]at hP
  simp[-Bool.forall_bool, -Bool.exists_bool]
  have:kb l s=false:=by
   rw[kb,List.any_eq_false]
   intro x hx
   rw[hP x hx]
   simp
  exact this
theorem Jp(h1:S qc=Ou)(h2:S kU=Yg):aq sA rE S (a2 B B) (fun x=>∃b,MN x.1 x.2=some b) (enc (X:=Bool)) fun x y=>MN x.1 x.2=some y:=by
 rintro⟨s,f⟩ ⟨b,hb⟩
 have hb:MN s f=some b:=hb
 have hb0:=hb
 unfold MN at hb
 split at hb
 rotate_left
 ·cases hb
 rename_i hc
 obtain⟨c1,c2⟩:=hc
 obtain⟨z,hz,hze⟩:=quN.1 c1
 obtain rfl:z=s:=of_decide_eq_true hze
 have e:kb (TL z) f=b:=by
  have hb:=qtV hb
  rw[<-hb]
  simp only[featS,qtM,quc,or_false]at hz
  rcases hz with rfl|rfl|rfl|rfl <;> rcases c2 with rfl|rfl <;> decide
 simp[sA,rE,h1,h2,hz,e, -Bool.forall_bool, -Bool.exists_bool]
 exact hb0
end Go.Gv

namespace Go.Gv
section
variable {P:Program}{im:List Nat}{E:xn}{S:Nat->Spc}
end
end Go.Gv

namespace Go.Gv
open Go.RowKit Go.Proofs
variable {F:Fence}{n:Nat}{P:Program}
structure GrL (B:Nat) (W W':World):Prop where
 os:W'.os=W.os
 tape:W'.tape=W.tape
 output:W'.output=W.output
 size:W.heap.size<=W'.heap.size
 low:∀j,j < B->W'.heap[j]? =W.heap[j]?
 drawn:W.drawn<=W'.drawn
theorem GrL.refl(B:Nat)(W:World):GrL B W W:=⟨rfl,rfl,rfl,qtP _,fun _ _=>rfl,qtP _⟩
theorem GrL.trans{B:Nat}{X Y Z:World}(h:GrL B X Y)(k:GrL B Y Z):GrL B X Z:=⟨k.os.trans h.os,k.tape.trans h.tape,k.output.trans h.output,quw h.size k.size,fun j hj=>(k.low j hj).trans (h.low j hj),quw h.drawn k.drawn⟩
theorem GrL.mono{A B:Nat}{X Y:World}(h:GrL B X Y)(hAB:A<=B):GrL A X Y:=⟨h.os,h.tape,h.output,h.size,fun j hj=>h.low j (qt1 hj hAB),h.drawn⟩
theorem GrL.alloc{B:Nat}(W:World)(hB:B<=W.heap.size)(o:Obj):GrL B W (W.alloc o):=⟨rfl,rfl,rfl,by simp,fun j hj=>Below.heap_alloc W o j (qt1 hj hB),qtP _⟩
theorem GrL.put{B:Nat}(W:World){l:Nat}(hB:B<=l)(o:Obj):GrL B W (W.putObj l o):=⟨rfl,rfl,rfl,by simp,fun j hj=>World.putObj_heap_other (by omega),qtP _⟩
structure GrR (B C:Nat) (W W':World):Prop where
 os:W'.os=W.os
 tape:W'.tape=W.tape
 output:W'.output=W.output
 size:W.heap.size<=W'.heap.size
 at_:B<=W.heap.size
 low:∀j,j < W.heap.size->(j < B\/C<=j)->W'.heap[j]? =W.heap[j]?
 drawn:W.drawn<=W'.drawn
theorem GrR.toL{B C:Nat}{X Y:World}(h:GrR B C X Y):GrL B X Y:=⟨h.os,h.tape,h.output,h.size,fun j hj=>h.low j (qt1 hj h.at_) (.inl hj),h.drawn⟩
theorem GrR.mono{A B C D:Nat}{X Y:World}(h:GrR B C X Y)(hAB:A<=B)(hCD:C<=D):GrR A D X Y:=⟨h.os,h.tape,h.output,h.size,quw hAB h.at_,fun j hj hs=>h.low j hj (hs.imp (fun h=>qt1 h hAB) fun h=>quw hCD h),h.drawn⟩
theorem GrR.trans{B C:Nat}{X Y Z:World}(h:GrR B C X Y)(k:GrR B C Y Z):GrR B C X Z:=⟨k.os.trans h.os,k.tape.trans h.tape,k.output.trans h.output,quw h.size k.size,h.at_,fun j hj hs=>(k.low j (qt1 hj h.size) hs).trans (h.low j hj hs),quw h.drawn k.drawn⟩
theorem GrR.get{B C:Nat}{X Y:World}(h:GrR B C X Y){j:Nat}{o:Obj}(hj:X.heap[j]? =some o)(hs:j < B\/C<=j):Y.heap[j]? =some o:=(h.low j (qtO.1 hj).1 hs).trans hj
theorem GrR.alloc{B C:Nat}(W:World)(hB:B<=W.heap.size)(o:Obj):GrR B C W (W.alloc o):=⟨rfl,rfl,rfl,by simp,hB,fun j hj _=>Below.heap_alloc W o j hj,qtP _⟩
theorem GrR.put{B C:Nat}(W:World){l:Nat}(hB:B<=l)(hC:l < C)(h:B<=W.heap.size)(o:Obj):GrR B C W (W.putObj l o):=⟨rfl,rfl,rfl,by simp,h,fun j _ hs=>World.putObj_heap_other (by omega),qtP _⟩
theorem GrR.set{B C b k:Nat}(W:World)(hB:B<=b)(hC:b < C)(h:B<=W.heap.size)(v:Value):GrR B C W (W.setCell ⟨b,k,none⟩ v):=⟨rfl,rfl,rfl,by simp[World.setCell],h,fun j _ hs=>Below.heap_setCell W ⟨b,k,none⟩ v j (by show j≠b;omega),qtP _⟩
structure KBt (B:Nat) (S:Nat->Prop) (W W':World):Prop where
 size:W.heap.size<=W'.heap.size
 block:∀k,k < W.heap.size->(S k\/B<=k)->W'.heap[k]? =W.heap[k]?
theorem KBt.refl(B:Nat)(S:Nat->Prop)(W:World):KBt B S W W:=⟨qtP _,fun _ _ _=>rfl⟩
theorem KBt.trans{B:Nat}{S:Nat->Prop}{X Y Z:World}(h:KBt B S X Y)(k:KBt B S Y Z):KBt B S X Z:=⟨quw h.size k.size,fun i hi hs=>(k.block i (qt1 hi h.size) hs).trans (h.block i hi hs)⟩
theorem KBt.mono{A B:Nat}{S:Nat->Prop}{X Y:World}(h:KBt A S X Y)(hAB:A<=B):KBt B S X Y:=⟨h.size,fun i hi hs=>h.block i hi (hs.imp id fun h=>quw hAB h)⟩
theorem KBt.alloc(B:Nat)(S:Nat->Prop)(W:World)(o:Obj):KBt B S W (W.alloc o):=⟨by simp,fun k hk _=>Below.heap_alloc W o k hk⟩
def qk3(B C:Nat)(I:Nat->World->Prop):Prop:=∀k W W',I k W->GrR B C W W'->I k W'
def qfS(S:Nat->Prop)(B:Nat)(I Ix:Nat->World->Prop)(k:Nat)(W:World):Exit->Act->World->Prop
 | .normal,_,W'=>KeepsFrom B W W'/\KBt B S W W'/\I (k+1) W'
 | .ret,_,W'=>KeepsFrom B W W'/\Ix k W'
 | _,_,_=>False
def qk0(F:Fence)(n:Nat)(P:Program)(gf:Nat)(lb:Array Value)(len:Nat)(encs:Nat->Array Value)(S:Nat->Prop)(m:Nat)(w:World):Prop:=
 ∀ (l:Nat) (J Jx:Nat->World->Prop) (W:World),KBt w.heap.size S w W->w.heap.size<=W.heap.size->(∀k A C,GrR W.heap.size (W.heap.size+m) A C->J k A->J k C)->
  (∀k W1,J k W1->W.heap.size+m<=W1.heap.size->k < len->YieldAt F (n -1) P l (encs k) W1 fun e W'=>
    (e= .returned (.bool true)/\J (k+1) W'/\KBt W.heap.size S W1 W')\/(e= .returned (.bool false)/\Jx k W'))->
  J 0 W->CallsIn F n P gf (#[.func (.yield l) #[] #[]] ++lb) W fun e W'=>(∃v,e= .returned v)/\(J len W'\/ ∃k,k < len/\Jx k W')
theorem Mf{g:Operand}{ps:Array Tmp}{assign body:Code}{Q:Exit->Act->World->Prop}{a:Act}{w:World}
 (hro:F.round=none) (h1:1<=n) {gf:Nat} {lb:Array Value} (hg:a.eval g= .func (.func gf) #[] lb) (hFg:F.fn gf) (eg:∀args w,(callFunc gf args).run P w= .ok (.enter gf args) w)
 {len:Nat} {encs:Nat->Array Value} {S:Nat->Prop} {m:Nat} (hseq:qk0 F (n -1) P gf lb len encs S m w) (hS:∀k,S k->k < w.heap.size) (hps:∀x,(encs x).size=ps.size)
 (I Ix:Nat->World->Prop) (hI:qk3 w.heap.size (w.heap.size+2+m) I) (hIx:qk3 w.heap.size (w.heap.size+2+m) Ix) (h0:I 0 w)
 (Ax:Nat->Act->World->Prop) (hAx:∀a',∀k W o,w.heap.size+1 < W.heap.size->Ax k a' W->Ax k a' (W.putObj (w.heap.size+1) o))
 (hassign:∀ (l k:Nat) (W:World),w.heap.size+2+m<=W.heap.size->w.heap.size<=l->I k W->k < len->
   assign.wpIn (F.inRound l) (n -1 -1) P (Exit.then (fun a' W'=>KeepsFrom w.heap.size W W'/\KBt w.heap.size S W W'/\I k W'/\Ax k a' W') (fun _ _ _=>False)) { tmps:=(ps.zip (encs k)).foldl (fun t (p,v)=>t.setIfInBounds p v) a.tmps,defers:=[] } W)
 (hbody:∀ (l k:Nat) (a':Act) (W:World),w.heap.size+2+m<=W.heap.size->w.heap.size<=l->I k W->Ax k a' W->k < len->body.wpIn (F.inRound l) (n -1 -1) P (qfS S w.heap.size I Ix k W) a' W)
 (hdone:∀ (D:Nat) (W:World),w.heap.size<=D->I len W->W.heap[D]? =some (.deferred (some []))->Q .normal { a with defers:={ target:= .collected D,args:= #[] } ::a.defers } W)
 (hstop:∀ (D k:Nat) (W:World),w.heap.size<=D->k < len->Ix k W->W.heap[D]? =some (.deferred (some []))->Code.ret.wpIn F n P Q { a with defers:={ target:= .collected D,args:= #[] } ::a.defers } W):
 (Code.rangeFunc g ps assign body).wpIn F n P Q a w:=by
 refine wpIn_rangeFunc ?_
 intro fn hfn
 rw[hro]
 obtain⟨rec,hrec⟩:∃rec:LoopState->Option Code->Loop,rec=fun st pe=>{ state:=st,pending:=pe,fn,tmps:=a.tmps,params:=ps,assign,body,defers:=w.heap.size } :=⟨_,rfl⟩
 obtain⟨W1,hW1⟩:∃W1,(w.alloc (.deferred (some []))).alloc (.loop (rec .ready none))=W1:=⟨_,rfl⟩
 have hL1:W1.heap[w.heap.size+1]? =some (.loop (rec .ready none)):=by
  rw[<-hW1];have:=World.alloc_heap_new (w.alloc (.deferred (some []))) (.loop (rec .ready none));rwa [World.size_alloc]at this
 have hK1:W1.heap[w.heap.size]? =some (.deferred (some [])):=by
  rw[<-hW1];exact(Below.heap_alloc _ _ _ (by simp)).trans (World.alloc_heap_new w _)
 have hI1:I 0 W1:=by rw[<-hW1];exact hI 0 _ _ (hI 0 _ _ h0 (GrR.alloc w (qtP _) _)) (GrR.alloc _ (by simp) _)
 have hs1:W1.heap.size=w.heap.size+2:=by rw[<-hW1];simp
 have hb1:KBt w.heap.size S w W1:=by
  rw[<-hW1];exact(KBt.alloc _ _ _ _).trans (KBt.alloc _ _ _ _)
 refine⟨w.heap.size+1, [{ target:= .collected w.heap.size,args:= #[] }],W1, { target:= .fn (.func gf) lb,args:= #[.func (.yield (w.heap.size+1)) #[] #[]] },W1,gf,
  #[.func (.yield (w.heap.size+1)) #[] #[]] ++lb,W1,?_,?_,?_,?_,fun _=>h1,?_⟩
 ·rw[<-hW1,hrec];exact run_enterLoop_outer _ _ _ _ _
 ·simp only[resolve,hg]
  simp[go_sem]
 ·intro f' hf';simp[Target.leads]at hf';subst hf';exact hFg
 ·simp[invoke,go_sem,eg]
 ·refine(hseq (w.heap.size+1)
   (fun k W=>I k W/\W.heap[w.heap.size+1]? =some (.loop (rec .ready none))/\W.heap[w.heap.size]? =some (.deferred (some [])))
   (fun k W=>Ix k W/\W.heap[w.heap.size+1]? =some (.loop (rec .done (some .ret)))/\W.heap[w.heap.size]? =some (.deferred (some [])))
   W1 hb1 (by omega)
   (fun k A C hg hs=>by
     rw[hs1]at hg
     exact⟨hI k A C hs.1 (hg.mono (by omega) (by omega)),hg.get hs.2.1 (.inl (by omega)),hg.get hs.2.2 (.inl (by omega))⟩)
   ?_ ⟨hI1,hL1,hK1⟩).mono ?_
  ·rintro k W ⟨hi,hl,hk⟩ hsz hlen
   rw[hs1]at hsz ⊢
   have hy:=run_yield (P:=P) (args:=encs k) hl (by rw[hrec];exact hps k)
   rw[hrec]at hy
   refine⟨fn,_,assign,body,hy,roundIn_of_wpIn hfn (wpIn_mono (hassign _ k W (by omega) (by omega) hi hlen) ?_)⟩
   clear hy
   rintro e a' Wa he
   cases e with
   | normal=>
     obtain⟨hkfa,hba,hia,hax⟩:=he
     have hla:=hkfa.same _ _ (by omega) hl rfl
     have hka:=hkfa.same _ _ (qtP _) hk rfl
     have hlt:w.heap.size+1 < Wa.heap.size:=(qtO.1 hla).1
     refine⟨_,run_beginRound hla (by rw[hrec]),?_⟩
     have hl2:(Wa.putObj (w.heap.size+1) (.loop { rec .ready none with state:= .busy })).heap[w.heap.size+1]? =some (.loop { rec .ready none with state:= .busy }):=World.putObj_heap_same hlt
     have hk2:(Wa.putObj (w.heap.size+1) (.loop { rec .ready none with state:= .busy })).heap[w.heap.size]? =some (.deferred (some [])):=(World.putObj_heap_other (by omega)).trans hka
     have bput:∀ (X:World) (o:Obj),KBt (w.heap.size+2) S X (X.putObj (w.heap.size+1) o):=fun X o=>⟨by simp,fun j hj hs=>World.putObj_heap_other (by rcases hs with h|h; (have:=hS j h;omega);omega)⟩
     refine wpIn_mono (hbody _ k a' _ (by simp;have:=hkfa.size;omega) (by omega) (hI k _ _ hia (GrR.put _ (by omega) (by omega) (by omega) _)) (hAx a' k _ _ hlt hax) hlen) ?_
     rintro e a3 W3 hp
     cases e with
     | normal=>
       obtain⟨hk3,hb3,hi3⟩:=hp
       have hl3:=hk3.same _ _ (by omega) hl2 rfl
       have hd3:=hk3.same _ _ (qtP _) hk2 rfl
       have hr:=run_endRound (P:=P) none hl3
       refine⟨_,_,hr, .inl ⟨rfl,⟨hI _ _ _ hi3 (GrR.put _ (by omega) (by omega) (by have:=(qtO.1 hl3).1;omega) _),?_,(World.putObj_heap_other (by omega)).trans hd3⟩,(hba.mono (by omega)).trans ((bput _ _).trans ((hb3.mono (by omega)).trans (bput _ _)))⟩⟩
       rw[World.putObj_heap_same (qtO.1 hl3).1,hrec]
       rfl
     | ret=>
       obtain⟨hk3,hi3⟩:=hp
       have hl3:=hk3.same _ _ (by omega) hl2 rfl
       have hd3:=hk3.same _ _ (qtP _) hk2 rfl
       have hr:=run_endRound (P:=P) (some .ret) hl3
       refine⟨_,_,hr, .inr ⟨rfl,hIx _ _ _ hi3 (GrR.put _ (by omega) (by omega) (by have:=(qtO.1 hl3).1;omega) _),?_,(World.putObj_heap_other (by omega)).trans hd3⟩⟩
       rw[World.putObj_heap_same (qtO.1 hl3).1,hrec]
       rfl
     | exit id=>exact hp.elim
     | goto t=>exact hp.elim
     | panic ch=>exact hp.elim
     | outgrown=>exact hp.elim
   | ret=>exact he.elim
   | exit id=>exact he.elim
   | goto t=>exact he.elim
   | panic ch=>exact he.elim
   | outgrown=>exact he.elim
  ·rintro e W2 ⟨⟨v,rfl⟩,(⟨hi,hl,hk⟩|⟨k,hk0,hi,hl,hk⟩)⟩
   ·exact⟨none,_,by have:=run_endLoop (P:=P) hl (by rw[hrec];simp);rw[hrec]at this;exact this,hdone _ _ (qtP _) (hI _ _ _ hi (GrR.put _ (by omega) (by omega) (by have:=(qtO.1 hl).1;omega) _)) ((World.putObj_heap_other (by omega)).trans hk)⟩
   ·exact⟨some .ret,_,by have:=run_endLoop (P:=P) hl (by rw[hrec];simp);rw[hrec]at this;exact this,hstop _ k _ (qtP _) hk0 (hIx _ _ _ hi (GrR.put _ (by omega) (by omega) (by have:=(qtO.1 hl).1;omega) _)) ((World.putObj_heap_other (by omega)).trans hk)⟩
end Go.Gv
