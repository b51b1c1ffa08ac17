/- A part of the framework and of the walks: W196 W197 V67 W198 W199 T45. -/
import Derived.Test.YtphdikcommfnhaaGreatDoorGb45
import Derived.Test.YtphdikcommfnhaaGreatDoorGb39
import Derived.Test.YtphdikcommfnhaaGreatDoorGb44
import Derived.Test.YtphdikcommfnhaaGreatDoorGb40
import Derived.Test.YtphdikcommfnhaaGreatDoorGb41
set_option linter.unusedSimpArgs false
set_option linter.unusedVariables false
set_option maxRecDepth 100000
set_option linter.unusedSectionVars false

namespace Go.Gv
open Cod (enc dec)
variable {S S0:Nat->Spc}
def qf2(c:Int):Bool:=decide (48<=c/\c<=57)
abbrev Eb:Spc:=bp (a1 U8) (fun _=>True) (enc (X:=Bool)) fun x y=>y=qf2 x.val
theorem QV:ar qC qi S (a1 U8) (fun _=>True) (enc (X:=Bool)) fun x y=>y=At x.val:=by
 rintro⟨c⟩ -
 simp[qC,qi,At]
 repeat' first|apply And.intro|intro _
 all_goals first|omega|(rw[qtA];simp;omega)
theorem UW:ar sO rZ S (a1 U8) (fun _=>True) (enc (X:=Bool)) fun x y=>y=qf2 x.val:=by
 rintro⟨c⟩ -
 simp[sO,rZ,qf2]
 repeat' first|apply And.intro|intro _
 all_goals first|omega|(rw[qtA];simp;omega)
abbrev Mi:Spc:=bp a0 (fun _=>True) (enc (X:=List B)) fun _ y=>y=signsL
theorem qa8:ar wS vW S a0 (fun _=>True) (enc (X:=List B)) fun _ y=>y=signsL:=by
 rintro x -
 simp[wS,vW]
 exact cV signsL (.same _) rfl
theorem TM{s:B}{i:Nat}{c:UInt8}(h:s.data[i]? =some c):qcm s i=decide (c.toNat=32\/c.toNat=10):=by rw[qcm,h]
theorem qc5{s:B}{i:Nat}(h:i < s.size):∃c,s.data[i]? =some c:=⟨s.data[i],qtU h⟩
theorem OD(s:B):∀ (n i:Nat),s.size -i=n->i<=s.size->i<=tz s i/\tz s i<=s.size
 | 0,i,h,hi=>by rw[KM (by omega)];omega
 | n+1,i,h,hi=>by
   rw[AV (by omega)]
   split
   ·have:=OD s n (i+1) (by omega) (by omega);omega
   ·omega
theorem GD{s:B}{i:Nat}{c:UInt8}(h:s.data[i]? =some c):Y1 s i=(At c.toNat||qf2 c.toNat||decide ((c.toNat:Int)=45)):=by
 unfold Y1 YU At qf2
 rw[h,qtA]
 simp
 omega
theorem Pg(c:UInt8):YU c.toNat=At (c.toNat:Int):=by unfold YU At;rw[qtA];simp;omega
abbrev RB:Spc:=bp (a1 B) (fun s=>∃r,Fn s=some r) (enc (X:=List FH)) fun s y=>Fn s=some y
theorem qek(h1:S nc=pR)(h2:S pu=Eb)(h3:S tL=Mi):ar zw yB S (a1 B) (fun s=>∃r,Fn s=some r) (enc (X:=List FH)) fun s y=>Fn s=some y:=by
 rintro s ⟨fin,hfin⟩
 have hsz:s.size<=100000:=by
  by_cases h:s.size<=100000
  ·exact h
  ·rw[Fn,if_neg h]at hfin;cases hfin
 have hfin0:=hfin
 rw[Fn,if_pos hsz]at hfin
 simp[zw,yB]
 refine av (X:=Nat×Nat×Value×List FH) [0] [] (fun z=>Hs z.1 s z.2.1 z.2.2.2=some fin/\z.2.1<=s.size/\z.2.2.2.length<=z.2.1) (fun z=>[(3, .own 200 z.2.2.1),(4,enc (z.2.1:Int))]) (fun z=>[(200, .row z.2.2.1 ij 3 (z.2.2.2.map enc))]) (fun z=>z.1) (100000,0, .slice none 0 0, []) ⟨hfin,by simp,by simp⟩ (by simp) (by simp[isNilRow]) ?_
 clear hfin
 rintro⟨k,i,v,out⟩ ⟨hk,hi,hlen⟩
 simp only at hk hi hlen
 obtain _|k:=k
 ·rw[Hs]at hk;cases hk
 rw[Hs]at hk
 simp
 refine bB (X:=Unit) [0,3] [200] (fun _=>True) (fun _=>[(4,enc ((tz s i:Nat):Int))]) (fun _=>[]) ?_ ?_
 ·simp
  refine av (X:=Nat) [0,3] [200] (fun j=>i<=j/\j<=s.size/\tz s j=tz s i) (fun j=>[(4,enc (j:Int))]) (fun _=>[]) (fun j=>s.size -j) i ⟨qs2 _,hi,rfl⟩ (by simp) (by simp) ?_
  rintro j ⟨j0,j1,j2⟩
  simp
  refine fun _=>⟨fun hj=>⟨hj,fun c hc=>⟨fun h32=>⟨hj,fun c' hc'=>?_⟩,fun h32=>?_⟩⟩,fun hj=>?_⟩
  ·rw[hc]at hc'
   cases hc'
   have hst:=AV hj
   rw[TM hc]at hst
   refine⟨fun h10=>⟨by simp only[InR];omega,j+1,⟨by omega,by omega,?_⟩,by omega,by omega⟩,fun h10=>?_⟩
   ·rw[<-j2,hst,if_pos (by simp;omega)]
   ·rw[<-j2,hst,if_neg (by simp;omega)]
  ·have hst:=AV hj
   rw[TM hc]at hst
   refine⟨by simp only[InR];omega,j+1,⟨by omega,by omega,?_⟩,by omega,by omega⟩
   rw[<-j2,hst,if_pos (by simp;omega)]
  ·rw[<-j2,KM hj]
 rintro - -
 have hsk:=OD s _ i rfl hi
 generalize hi':tz s i=i' at hk hsk
 simp
 refine fun _=>⟨fun he=>⟨by omega,by omega,fun v'=>?_⟩,fun hne=>?_⟩
 ·rw[if_pos (by omega)]at hk
  refine cV fin (iX ij ?_) hfin0
  cases hk
  rw[show(i':Int)=(s.size:Int) by omega]
  simp
 rw[if_neg (by omega)]at hk
 obtain⟨⟨j,t⟩,ht,hk⟩:=qsR.1 hk
 simp only at hk
 split at hk
 ·rename_i hj
  refine bB (X:=Value) [0] [] (fun _=>True) (fun v'=>[(5,enc (j:Int)),(3, .own 200 v')]) (fun v'=>[(200, .row v' ij 3 ((out++ [t]).map enc))]) ?_ ?_
  ·obtain⟨c,hc⟩:=qc5 (s:=s) (i:=i') (by omega)
   unfold qhX at ht
   rw[hc]at ht
   simp only at ht
   split at ht
   ·rename_i hL
    cases ht
    have hbeg:At (c.toNat:Int)=true:=by rw[<-Pg];exact hL
    simp[h1,h2,hc,hbeg]
    refine⟨by omega,?_⟩
    refine av (X:=Nat) [0,3,4] [200] (fun j=>i'<=j/\j<=s.size/\EC s j=EC s i') (fun j=>[(5,enc (j:Int))]) (fun _=>[]) (fun j=>s.size -j) i' ⟨qs2 _,by omega,rfl⟩ (by simp) (by simp) ?_
    rintro j ⟨j0,j1,j2⟩
    have go:∀c:UInt8,s.data[j]? =some c->Y1 s j=true->InR .i64 ((j:Int) +1)/\∃y,(i'<=y/\y<=s.size/\EC s y=EC s i')/\(j:Int) +1=y/\s.size -y < s.size -j:=fun c hc hn=>by
     have hj:j < s.size:=(qs0.1 hc).1
     refine⟨by simp only[InR];omega,j+1,⟨by omega,by omega,?_⟩,by omega,by omega⟩
     rw[<-j2,K2 hj,hn,if_pos rfl]
    have stop:EC s j=j->EC s i'=j:=fun h=>by rw[<-j2,h]
    simp[h1,h2]
    clear h1 h2 h3 hc hL hbeg
    refine fun _=>⟨fun hj=>⟨hj,fun c hc=>⟨fun b1=>⟨hj,fun c2 hc2=>⟨fun b2=>⟨hj,fun c3 hc3=>⟨fun b3=>?_,fun b3=>?_⟩⟩,fun b2=>?_⟩⟩,fun b1=>?_⟩⟩,fun hj=>?_⟩
    ·rw[hc]at hc3
     cases hc3
     exact go c hc (by rw[GD hc,decide_eq_true b3];simp)
    ·rw[hc]at hc3 hc2
     cases hc3
     cases hc2
     have e:=stop (by rw[K2 hj,GD hc,b1,b2,decide_eq_false b3];rfl)
     exact⟨j0,j1,by omega,by omega,fun v=>⟨_,⟨by rw[e],rfl⟩, .inl ⟨rfl,by rw[e]⟩⟩⟩
    ·rw[hc]at hc2
     cases hc2
     exact go c hc (by rw[GD hc,b2];simp)
    ·exact go c hc (by rw[GD hc,b1];simp)
    ·have e:=stop (YB hj)
     exact⟨j0,j1,by omega,by omega,fun v=>⟨_,⟨by rw[e],rfl⟩, .inl ⟨rfl,by rw[e]⟩⟩⟩
   rename_i hL
   have hbeg:At (c.toNat:Int)=false:=by rw[<-Pg];simpa using hL
   split at ht
   ·cases ht
   ·rename_i hD
    have hdg:qf2 (c.toNat:Int)=false:=by unfold qf2;rw[decide_eq_false];omega
    split at ht
    ·rename_i hQ
     obtain⟨⟨q,w⟩,hq,ht⟩:=qs4.1 ht
     cases ht
     have hQ':(c.toNat:Int)=34:=by omega
     rw[hQ']at hbeg hdg
     simp[h1,h2,hc,hbeg,hdg,hQ']
     refine⟨by omega,by simp only[InR];omega,?_⟩
     refine av (X:=Nat×B) [0,3,4] [200] (fun z=>R7 s z.1 z.2=some (q,w)/\z.1<=s.size/\i' < z.1/\z.2.size<=z.1) (fun z=>[(5,enc (z.1:Int)),(6,enc z.2),(7,enc false)]) (fun _=>[]) (fun z=>s.size -z.1) (i'+1,⟨#[]⟩) ⟨hq,by omega,by omega,qtl _⟩ (by simp) (by simp) ?_
     rintro⟨j,u⟩ ⟨j0,j1,j2,j3⟩
     simp only at j0 j1 j2 j3
     simp
     clear h1 h2 h3
     refine fun _=>⟨fun hjs=>⟨hjs,fun d hd=>?_⟩,fun hjs=>?_⟩
     ·rw[Vn hd]at j0
      refine⟨fun h34=>⟨by simp only[InR];omega,fun _=>⟨fun hj1=>⟨by simp only[InR];omega,by omega,hj1,fun d' hd'=>⟨fun h34'=>?_,fun h34'=>?_⟩⟩,fun hj1=>?_⟩⟩,fun h34=>?_⟩
      ·rw[if_pos (by omega),hd']at j0
       simp only at j0
       rw[if_pos (by omega)]at j0
       cases j0
      ·rw[if_pos (by omega),hd']at j0
       simp only at j0
       rw[if_neg (by omega)]at j0
       cases j0
       exact⟨by simp only[InR];omega,by omega,by omega,fun v'=>⟨v',⟨rfl,rfl⟩, .inl ⟨rfl,rfl⟩⟩⟩
      ·have hnone:s.data[j+1]? =none:=quh (by show s.size<=j+1;omega)
       rw[if_pos (by omega),hnone]at j0
       cases j0
       exact⟨by simp only[InR];omega,by omega,by omega,fun v'=>⟨v',⟨rfl,rfl⟩, .inl ⟨rfl,rfl⟩⟩⟩
      ·rw[if_neg (by omega)]at j0
       refine⟨by simp only[InR];omega,by omega,by omega,by omega,by simp only[InR];omega,j+1,_,⟨j0,by omega,by omega,?_⟩,⟨by omega,rfl⟩,by omega⟩
       rw[ByteArray.size_append,qvc]
       omega
     ·rw[Ya hjs]at j0
      cases j0
    ·rename_i hQ
     have hQ':¬ (c.toNat:Int)=34:=by omega
     split at ht
     ·cases ht
     ·rename_i x hx
      cases ht
      simp[h1,h2,h3,hc,hbeg,hdg,hQ']
      refine⟨by omega,fun _=>?_⟩
      refine ak (X:=Unit) [0,3,4,5,38] [200] signsL.length (fun k _=>(signsL.drop k).find? (qe6 s i')=some x) (fun _=>[]) (fun _=>[]) () (by simp) (by simp) (by decide) (by simp) (by simp) (by simpa using hx) (by simp) (by simp) ?_ ?_
      ·rintro m -hm hP
       obtain⟨y,hy⟩:=dO hm
       obtain⟨_,hgy⟩:=qsT.1 hy
       rw[nq hy,List.find?_cons]at hP
       have hpre:qe6 s i' y=decide (i'+y.size<=s.size/\s.extract i' (i'+y.size)=y):=rfl
       have e1:((i':Int) + (y.size:Int)).toNat=i'+y.size:=by omega
       simp[hm,hy,hgy,e1]
       clear h1 h2 h3
       refine fun _=>⟨by simp only[InR];omega,fun _=>⟨fun hle _=>⟨by simp only[InR];omega,by omega,by omega,fun hex _=>⟨by simp only[InR];omega,fun hz=>?_,fun _=>?_⟩,fun hex=>?_⟩,fun hlt=>?_⟩⟩
       ·rw[hpre,decide_eq_true ⟨by omega,hex⟩]at hP
        cases hP
        omega
       ·rw[hpre,decide_eq_true ⟨by omega,hex⟩]at hP
        cases hP
        exact⟨by omega,by omega,by omega,by omega,fun v'=>⟨v',⟨rfl,rfl⟩, .inl ⟨rfl,rfl⟩⟩⟩
       ·rw[hpre,decide_eq_false (fun h=>hex h.2)]at hP
        exact hP
       ·rw[hpre,decide_eq_false (fun h=>by have:=h.1;omega)]at hP
        exact hP
      ·rintro -hP
       rw[qtR]at hP
       cases hP
  ·rintro v' -
   simp
   exact⟨k,j,v',out++ [t],⟨hk,hj.1,by simp;omega⟩,⟨⟨rfl,rfl⟩, .inl ⟨rfl,by simp⟩⟩,by omega⟩
 ·cases hk
end Go.Gv

namespace Go.Gv
open Cod (enc dec)
open Go.Proofs
variable {S S0:Nat->Spc}
def UI:Glob:=⟨0,E0,E0,E0,E0,E0,false,0,0, [], []⟩
@[simp] abbrev NS(s:Pst)(z:List B×Int):Option (Pst×Int):=if s.e=0/\0<=z.2 then(wy s).bind fun t=>if t.kind≠110 then some (s, -1)else none else none
abbrev Rv:Spc:=R9 (a2 (List B) Int) (enc (X:=Int)) NS
theorem qei(h1:S db=RN):nT lH lm S (a2 (List B) Int) (enc (X:=Int)) (fun s z=>∃r,NS s z=some r) (fun s z s' y=>NS s z=some (s',y)):=by
 rintro b s ⟨l,i⟩ ⟨r,hr⟩
 have hr0:=hr
 simp only[NS]at hr
 split at hr
 ·rename_i he
  obtain⟨he,hi0⟩:=he
  have hi0:0<=i:=hi0
  obtain⟨t,ht,hr⟩:=qsR.1 hr
  split at hr
  ·rename_i hk
   cases hr
   simp[lH,lm]
   refine av (X:=Int) [0,1] [0] (fun j=>0<=j) (fun j=>[(7,enc j)]) (fun _=>[]) (fun j=>(l.length -j).toNat) i hi0 (by simp) (by simp) ?_
   intro j hj
   have hj:0<=j:=hj
   have hno:∀x:B,TN s 110 x=some false:=fun x=>by rw[GB he ht,decide_eq_false];exact fun h=>hk h.1
   simp[h1,hno]
   exact fun _=>⟨fun hl=>⟨hj,hl,fun a _=>⟨by simp only[InR];omega,j+1,by omega,rfl,by omega⟩⟩,fun _=>qpm s (by simp) ⟨⟨he,hi0⟩,by rw[ht];simp[hk]⟩⟩
  ·cases hr
 ·cases hr
abbrev Mf:Spc:=bp a0 (fun _=>True) (enc (X:=List B)) fun _ _=>True
theorem UZ:ar sP sa S a0 (fun _=>True) (enc (X:=List B)) fun _ _=>True:=by
 rintro x -
 simp[sP,sa]
 exact cV (Y:=List B) [⟨#[]⟩,⟨#[119,105,116,104,105,110]⟩,⟨#[99,111,110,116,97,105,110,105,110,103]⟩,⟨#[111,118,101,114,108,97,112,112,105,110,103]⟩] (.same _) trivial
def UD(s:B)(y:Qry×Int×Int):Prop:=∃p,Ei s=some p/\y=(⟨p,UI, [],0⟩,0,0)
abbrev Mx:Spc:=bp (a1 B) (fun s=>∃p,Ei s=some p) (qdS (Y:=Qry) (Z:=Int) (W:=Int)) UD
theorem qcG{H:ab}{l l':List D}(h:FzL H l l'):FrzTo H (.agg l) (.agg l'):= .agg h.get.1 h.get.2
theorem qbm(h1:S wL=RB)(h2:S jO=XY)(h3:S bj=yx)(h4:S pv=Mf)(h5:S iJ=Rv)(h6:S db=RN)(h7:S aK=vj):
 ar wT vX S (a1 B) (fun s=>∃p,Ei s=some p) (qdS (Y:=Qry) (Z:=Int) (W:=Int)) UD:=by
 rintro s ⟨p,hp⟩
 have hp0:=hp
 unfold Ei at hp
 split at hp
 ·rename_i hsz
  obtain⟨l,hl,hp⟩:=qsR.1 hp
  obtain⟨⟨s1,p1⟩,ha,hp⟩:=qsR.1 hp
  simp only at hp
  split at hp
  ·cases hp
  rename_i he
  have he:s1.e=0:=by simpa using he
  obtain⟨t,ht,hp⟩:=qsR.1 hp
  split at hp
  ·rename_i hk
   cases hp
   have hex:∃y,Fn s=some y:=⟨l,hl⟩
   have n1:qz s1 ⟨#[58,58]⟩=some (s1,false):=wQ he ht (by omega)
   have n2:qz s1 ⟨#[33]⟩=some (s1,false):=wQ he ht (by omega)
   have n3:TN s1 110 ⟨#[115,116,114,97,116,101,103,121]⟩=some false:=by rw[GB he ht,decide_eq_false];omega
   have hsz':¬ (400:Int) < s.size:=by omega
   simp[wT,vX,h1,hsz',hex, -Bool.forall_bool]
   intro b2 _ l' hl' b16
   rw[hl]at hl'
   cases hl'
   simp[h2,ha,h3,n1]
   intro b6
   refine bB (X:=Unit) [2,5,6] [2,6,16] (fun _=>True) (fun _=>[]) (fun _=>[]) ?_ ?_
   ·simp
    refine av (X:=Unit) [2,5,6] [2,6,16] (fun _=>True) (fun _=>[]) (fun _=>[]) (fun _=>0) () trivial (by simp) (by simp) ?_
    rintro - -
    simp[h3,h4,h5,he,Dr he,n2,ht,hk]
   rintro - -
   refine bB (X:=Unit) [2,5,6] [2,6,16] (fun _=>True) (fun _=>[]) (fun _=>[]) ?_ ?_
   ·simp[h6,n3]
   rintro - -
   refine bB (X:=Unit) [2,5,6] [2,6,16] (fun _=>True) (fun _=>[]) (fun _=>[]) ?_ ?_
   ·simp[h7,he,Dr he,ht,hk]
   rintro - -
   simp[he]
   refine⟨⟨p,UI, [],0⟩,qcG ?_,p,hp0,rfl⟩
   simp[UI,E0]
  ·cases hp
 ·cases hp
end Go.Gv

namespace Go.Gv
open Go.Proofs
def qfB:List B:=[⟨#[97]⟩,⟨#[98]⟩]
def knX:ti:=⟨⟨#[116]⟩,0,4, []⟩
def knR:Rn:=Ag plC qfB knX
def qg8:Pat:=⟨1,⟨2,E0,E0,⟨#[97]⟩,E0,false, []⟩,⟨#[97]⟩,E0,0,0, []⟩
def qg7:Pat:=⟨1,⟨2,E0,E0,⟨#[98]⟩,E0,false, []⟩,⟨#[98]⟩,E0,0,0, []⟩
def qfA:Pat:=⟨1,⟨1,E0,E0,E0,E0,false, []⟩,E0,E0,0,0, []⟩
def qfz:Pat:=⟨6,kV,E0,E0,0, -1, [qfA]⟩
theorem Dd:bV De []=qfB:=by kernel_rfl
theorem Wb:bD De=[qg8,qfA,qg7]:=by kernel_rfl
theorem TK:(decide (lY De<=256) && decide (tq De<=1000))=true:=by kernel_rfl
theorem qiR:([qg8,qfA,qg7].all fun x=>qfg plC.attrs qfB x.cond)=true:=by kernel_rfl
theorem qcg(vs:List Int)(q:Pat)(hq:q=qg8\/q=qg7\/q=qfA):((List.range 4).all fun i=>(wH ⟨plC,(i:Int),qfB,vs⟩ 21 q.cond).isSome)=true:=by
 rcases hq with rfl|rfl|rfl <;> kernel_rfl
theorem qfy:((List.range 4).map fun(i:Nat)=>PX knR De (FW (i:Int)))=[[⟨2,1,2,0⟩,⟨4,1,4,0⟩], [], [⟨4,3,4,0⟩], []]:=by kernel_rfl
theorem YX{b:B}(h:b=⟨#[97]⟩\/b=⟨#[98]⟩):cD b=true:=by
 rw[vL]
 rcases h with rfl|rfl
 all_goals
  refine⟨by decide,by decide,fun c hc=>by cases hc;rfl,fun k c hc=>?_⟩
  rcases k with _|k
  ·cases hc;rfl
  ·simp at hc
theorem IF{C:Pat->Prop}(h0:C De)(h1:C qfz)(h2:C qg8)(h3:C qg7)(h4:C qfA):kg C De:=by
 intro q hq
 have:q∈ [De,qg8,qfz,qfA,qg7]:=hq
 simp only[qsY,qtp,or_false]at this
 rcases this with rfl|rfl|rfl|rfl|rfl
 ·exact h0
 ·exact h2
 ·exact h1
 ·exact h4
 ·exact h3
theorem Gz:kg (fun q=>uS q/\xX q=true/\vr cD q=true) De:=by
 have v0:∀q:Pat,q.op≠2->q.op≠3->(q.lab≠ ⟨#[]⟩->cD q.lab=true)->vr cD q=true:=fun q h2 h3 h=>by
  unfold vr
  rw[decide_eq_true_eq]
  exact⟨fun h'=>by omega,h⟩
 refine IF ⟨.inr (.inr (.inl ⟨.inl rfl,rfl,rfl,rfl,rfl,rfl,by decide⟩)),rfl,v0 _ (by decide) (by decide) fun h=>absurd rfl h⟩
  ⟨.inr (.inr (.inr ⟨rfl,rfl,rfl,rfl,rfl⟩)),rfl,v0 _ (by decide) (by decide) fun h=>absurd rfl h⟩
  ⟨.inl ⟨rfl,rfl,rfl,rfl,rfl⟩,rfl,v0 _ (by decide) (by decide) fun _=>YX (.inl rfl)⟩ ⟨.inl ⟨rfl,rfl,rfl,rfl,rfl⟩,rfl,v0 _ (by decide) (by decide) fun _=>YX (.inr rfl)⟩
  ⟨.inl ⟨rfl,rfl,rfl,rfl,rfl⟩,rfl,v0 _ (by decide) (by decide) fun h=>absurd rfl h⟩
theorem A2{f:Pat->Bool}(p:Pat)(h:kg (fun q=>f q=true) p):eT f p=true:=by
 induction p using tD with|_ p ih=>?_
 rw[ez,jH h,quH,qsX]
 exact fun k hk=>ih k hk (pS h hk)
theorem YY:qY cD De=true:=by
 unfold qY
 rw[A2 De (rG Gz fun q h=>(zT q).2 h.1),A2 De (rG Gz fun q h=>h.2.2),A2 De (rG Gz fun q h=>h.2.1)]
 rfl
theorem qfw:qhz plC.attrs ⟨De,nX, [],0⟩:=by
 have hn:=TK
 simp only[qs1,decide_eq_true_eq]at hn
 refine⟨rfl,rfl,rfl,YY,hn.1,by rw[Dd];decide,by show tq De<=1000000;omega,by decide,fun x hx=>?_⟩
 have hx:x∈bD De:=hx
 rw[Wb]at hx
 have h:=qsX.1 qiR x hx
 rw[show bV (Qry.mk De nX [] 0).pat []=qfB from Dd]
 refine⟨h,1,?_⟩
 simp only[qsY,qtp,or_false]at hx
 rcases hx with rfl|rfl|rfl <;> exact⟨by decide,fun k hk=>by cases hk⟩
theorem Sm{q:Pat}(hq:q=qg8\/q=qg7\/q=qfA)(s:St3)(h:QI knR.en s)(h2:s.p < knR.en):∃y,Af knR q s=some y:=by
 have h2:s.p < 4:=h2
 have h0:=h.1
 obtain⟨i,hi,e⟩:∃i:Nat,i < 4/\(i:Int)=s.p:=⟨s.p.toNat,by omega,by omega⟩
 have:=qsX.1 (qcg (NG knR s) q hq) i (qus.2 hi)
 unfold Af
 rw[<-e]
 exact qtV.1 this
theorem qfx:UJ plC De:=by
 have hn:=TK
 simp only[qs1,decide_eq_true_eq]at hn
 refine⟨⟨by decide,by decide,by decide⟩,by decide,YY,by rw[Dd];decide,by omega,fun t ht=>?_⟩
 have e:t=knX:=by simpa [plC,knX]using ht
 subst e
 rw[Dd]
 have hop:∀q:Pat,q.op≠1->uS q->xX q=true->(q.lab≠qP->sC qfB q.lab=true)->qdm knR q:=fun q h1 h2 h3 h4=>⟨h2,h3,h4,fun h=>absurd h h1⟩
 have g:=Gz
 refine IF (hop _ (by decide) (g De (by simp[Fv])).1 rfl fun h=>absurd rfl h) (hop _ (by decide) (g qfz (.tail _ (.tail _ (.head _)))).1 rfl fun h=>absurd rfl h) ⟨.inl ⟨rfl,rfl,rfl,rfl,rfl⟩,rfl,fun _=>rfl,fun _=>Sm (.inl rfl)⟩ ⟨.inl ⟨rfl,rfl,rfl,rfl,rfl⟩,rfl,fun _=>rfl,fun _=>Sm (.inr (.inl rfl))⟩ ⟨.inl ⟨rfl,rfl,rfl,rfl,rfl⟩,rfl,fun h=>absurd rfl h,fun _=>Sm (.inr (.inr rfl))⟩
theorem qiS:WQ plC ⟨De,nX, [],0⟩:=⟨qfw,qfx⟩
def knM:List Match:=[⟨0,2, [0,1]⟩,⟨0,4, [0,3]⟩,⟨2,4, [2,3]⟩]
theorem M6{i:Int}(h0:0<=i)(h1:i < 4):U9 plC i=some knX:=by
 unfold U9
 show List.find? _ [knX]=_
 rw[List.find?_cons,show(decide (knX.b<=i) && decide (i < knX.e))=true by rw[qs1,decide_eq_true_iff,decide_eq_true_iff];exact⟨h0,h1⟩]
theorem qiT:NP plC qfB De knM:=by
 refine⟨.cons (fun x hx=>?_) (.cons (fun x hx=>?_) (.cons (fun x hx=>by cases hx) .nil)),fun m=>?_⟩
 ·simp only[qsY,qtp,or_false]at hx
  rcases hx with rfl|rfl <;> (unfold NX;decide)
 ·simp only[qsY,qtp,or_false]at hx
  subst hx
  (unfold NX;decide)
 have hd:∀i:Nat,i < 4->∀s,kU knR De (FW (i:Int)) s↔s∈PX knR De (FW (i:Int)):=fun i hi s=>by
  refine(zQ knR (by decide) De ?_ (FW (i:Int)) ⟨by simp[FW],?_,fun j=>?_⟩ s).symm
  ·exact IF (.inr (.inr (.inr (.inl rfl)))) (.inr (.inr (.inr (.inr (.inr (by decide)))))) (.inl rfl) (.inl rfl) (.inl rfl)
  ·show(i:Int)<=4;omega
  ·rcases j with _|_|j <;> exact⟨quI 0,(by decide:(0:Int)<=4)⟩
 have hk:=qfy
 simp only[List.range,List.range.loop,qtk,qt6,qti,and_true]at hk
 obtain⟨e0,e1,e2,e3⟩:=hk
 constructor
 ·intro hm
  simp only[knM,qsY,qtp,or_false]at hm
  rcases hm with rfl|rfl|rfl
  ·exact⟨by decide,by decide,knX,M6 (by decide) (by decide),⟨2,1,2,0⟩,(hd 0 (by decide) _).2 (by rw[e0];simp),by decide,rfl,rfl⟩
  ·exact⟨by decide,by decide,knX,M6 (by decide) (by decide),⟨4,1,4,0⟩,(hd 0 (by decide) _).2 (by rw[e0];simp),by decide,rfl,rfl⟩
  ·exact⟨by decide,by decide,knX,M6 (by decide) (by decide),⟨4,3,4,0⟩,(hd 2 (by decide) _).2 (by rw[e2];simp),by decide,rfl,rfl⟩
 ·rintro⟨h0,h1,t,ht,s,hs,h3,h4,h5⟩
  obtain⟨b,e,l⟩:=m
  simp only at h0 h1 ht hs h3 h4 h5
  have h1:b < 4:=h1
  rw[M6 h0 h1]at ht
  cases ht
  obtain⟨i,hi,rfl⟩:∃i:Nat,i < 4/\(i:Int)=b:=⟨b.toNat,by omega,by omega⟩
  have hs:=(hd i hi s).1 hs
  subst h4 h5
  rcases i with _|_|_|_|i
  ·rw[e0]at hs
   simp only[qsY,qtp,or_false]at hs
   rcases hs with rfl|rfl
   ·exact .head _
   ·exact .tail _ (.head _)
  ·rw[e1]at hs;cases hs
  ·rw[e2]at hs
   simp only[qsY,qtp,or_false]at hs
   subst hs
   exact .tail _ (.tail _ (.head _))
  ·rw[e3]at hs;cases hs
  ·omega
end Go.Gv

namespace Go.Gv
open Go.Proofs
open Cod (enc dec)
variable {S S0:Nat->Spc}
abbrev Ea:Spc:=bp a0 (fun _=>True) enc (fun(_:Unit) (y:Bool)=>y=true)
theorem UV(h1:S tM=Mx)(h2:S pE=Mk)(h3:S eY=OK)(h4:S wK=Mj):ar tb sv S a0 (fun _=>True) enc (fun(_:Unit) (y:Bool)=>y=true):=by
 rintro x -
 have hex:∃p,Ei ⟨#[97,58,34,97,34,32,91,93,42,32,98,58,34,98,34]⟩=some p:=⟨_,K8⟩
 simp[tb,sv,h1,hex, -Bool.forall_bool, -Bool.exists_bool]
 rintro q a b ⟨p,hp,e⟩ b1
 cases e
 have e:p=De:=qs8 (hp.symm.trans K8)
 subst e
 have hM:WQ plC ⟨De,UI, [],0⟩:=qiS
 have hpl:(⟨#[97,98,97,98]⟩:B)=abT:=rfl
 simp[h2,h3,h4,hpl, -Bool.forall_bool, -Bool.exists_bool]
 have hi:NP plC (bV De []) De knM:=by rw[Dd];exact qiT
 refine⟨hM,fun l e hq=>?_⟩
 rcases hq with⟨h1,h2,h3⟩|⟨_,_,k,l',h3,h4⟩
 ·have e1:l=knM:=qcn h2 hi
  subst e1
  refine⟨fun _=>⟨⟨fun m hm=>?_,?_,?_,?_⟩,fun y hy=>hy.2 rfl⟩,h1⟩
  ·simp only[knM,qsY,qtp,or_false]at hm
   rcases hm with rfl|rfl|rfl <;> (unfold Dl;decide)
  ·unfold Dl;decide
  ·unfold Dl;decide
  ·unfold Dl;decide
 ·have h5:=qeI h3 hi
  have:knM.length=3:=rfl
  omega
end Go.Gv

namespace Go.Gv
open Go.Proofs
open Cod (enc dec)
variable {S S0:Nat->Spc}
end Go.Gv

namespace Go.Gv
open Cod (enc dec)
theorem Zn{ds:List D}(h:∀d∈ds,QK d):QK (.agg ds):=fun tp I tp' I' w w' x hr=>by
 cases hr with
 | agg xs _ hl h1' hk=>exact .agg xs _ hl h1' fun k y c h1 h2=>h c (qsW h2) _ _ _ _ _ _ _ (hk k y c h1 h2)
section
variable {X Y:Type}[Cod Y]
theorem Oi{P:Program}{f:Nat}{A:dc X}{pre:D×X->Prop}{post:D×X->List Y->Prop}{el n:Nat}(hn:n=Cod.wd Y)(hf:Tri P f (qjc (Y:=Y) (aD A) pre post el n).pt)(hflat:∀y:Y,∀c∈ (enc y).cells,QK c):Tri P f (qd0 A pre (enc (X:=List Y)) post).pt:=by
 intro O tp w vs ds H d K hO htl hsat hlen hargs hA
 obtain⟨id,bk,cells,ds',x,rfl,hd,hid,hp,hK⟩:=hA
 cases vs with
 | nil=>simp at hlen
 | cons v0 vs=>
   have hv0:v0= .pointer (some ⟨bk,0,none⟩):=by
    have:=hargs 0 v0 (.bptr id bk 0) rfl rfl
    cases this;rfl
   subst hv0
   let O':Nat->Prop:=fun b=>O b\/ ∃i r,i≠id/\H i=some r/\r.blk=some b
   have himm:∀b,aP O tp H w b->aP O' tp bU w b:=fun b hb=>⟨hb.1,fun h=>h.elim hb.2.1 fun⟨i,r,_,h1,h2⟩=>hb.2.2.2 ⟨i,r,h1,h2⟩,hb.2.2.1,fun⟨i,r,h1,_⟩=>by simp at h1⟩
   have hmv:∀y e,R tp (aP O tp H w) w y e->R tp (aP O' tp bU w) w y e:=fun y e hr=>hr.mono (fun _ h=>h) (fun b hb=>⟨himm b hb,rfl⟩) (fun b _=> .refl _ _)
   have hl:R tp (aP O' tp bU w) w (.pointer (some ⟨bk,0,none⟩)) (.cptr cells 0):=by
    have hbk:(Res.box bk cells).blk=some bk:=rfl
    have h1:=hsat.out id _ bk hid hbk
    have hI:aP O' tp bU w bk:=⟨(hsat.ok id _ hid).lt hbk,fun h=>h.elim h1.1 fun⟨i,r,hne,h2,h3⟩=>hne (hsat.dis _ _ _ _ bk h2 hid h3 hbk),h1.2,fun⟨i,r,h2,_⟩=>by simp at h2⟩
    obtain⟨xs,el,g1,g2,g3⟩:=(hsat.ok id _ hid).conv hmv (fun _ _=>rfl)
    obtain⟨f,k1,k2,k3⟩:=pf g1 g2 g3
    have:=R.cptr (tp:=tp) bk 0 cells 0 f hI (fun _=>⟨_,_,g1⟩) k1 k2 k3
    simpa using this
   have hdec:(aD A).dec (.cptr cells 0::ds')=some (.cptr cells 0,x):=by simp[hd]
   obtain⟨hce,hc⟩:=hf O' tp w (.pointer (some ⟨bk,0,none⟩)::vs) (.cptr cells 0::ds') bU d (fun r H'=>∃v l,r= .own d v/\post (.cptr cells 0,x) l/\H'=ah bU d (some (.row v el n (l.map enc))))
    (fun b hb=>hb.elim (hO b) fun⟨i,r,_,h1,h2⟩=>(hsat.ok i r h1).lt h2) (htl.mono fun b ⟨i,r,h,_⟩=>by simp at h) ⟨fun i j r s b h=>by simp at h,fun i r b h=>by simp at h,fun i r h=>by simp at h⟩ (by simpa using hlen)
    (fun k y e h1 h2=>by
      cases k with
      | zero=>simp at h1 h2;subst h1;subst h2;exact hl
      | succ k=>simp at h1 h2;exact hmv _ _ (hargs (k+1) y e (by simpa using h1) (by simpa using h2)))
    (by rw[Zl,hdec];exact⟨hp,fun v l hz=>⟨v,l,rfl,hz,rfl⟩⟩)
   refine⟨hce,hc.mono ?_⟩
   rintro e w' ⟨q,r,H',tp',rfl,⟨v,l,rfl,hz,rfl⟩,t1,t2,t3,hs,ho,hsat',hR⟩
   have hsame:∀b,b < w.heap.size->¬tp b->w'.heap[b]? =w.heap[b]?:=fun b hb ht=>hs.same b hb (fun⟨i,r,h,_⟩=>by simp at h) ht
   have hmove:∀y e,R tp (aP O tp H w) w y e->R tp' (aP O tp' H w') w' y e:=fun y e hr=>hr.mono t1 (fun b hb=>⟨⟨qte hb.1 hs.size,hb.2.1,fun h=>by
    rcases t2 b h with h|h
    ·exact hb.2.2.1 h
    ·have:=hb.1;omega,hb.2.2.2⟩,hsame b hb.1 hb.2.2.1⟩) hs.tapes
   have hrow:ah bU d (some (.row v el n (l.map enc))) d=some (.row v el n (l.map enc)):=by simp[ah]
   have hrk:=hsat'.ok d _ hrow
   have hrk':ResOk (R tp' (aP O tp' H w') w') w' (.row v el n (l.map enc)):=by
    obtain⟨xs,g1,g2,g3⟩:=hrk
    refine⟨xs,g1,g2,fun k y c h1 h2=>⟨(g3 k y c h1 h2).1,?_⟩⟩
    have hm:c∈bq (l.map enc):=qsW h2
    obtain⟨e,he,hce⟩:=qtX.1 hm
    obtain⟨y',_,rfl⟩:=qs7.1 he
    exact hflat y' c hce _ _ _ _ _ _ _ (g3 k y c h1 h2).2
   have hfresh:∀b,(Res.row v el n (l.map enc)).blk=some b->aP O tp' H w' b:=fun b hb=>by
    have h1:=ho b ⟨d,_,hrow,hb⟩
    have h2:w.heap.size<=b:=h1.elim (fun⟨i,r,h,_⟩=>by simp at h) fun h=>h
    refine⟨hrk.lt hb,fun h=>?_,(hsat'.out d _ b hrow hb).2,fun⟨i,r,h3,h4⟩=>?_⟩
    ·have:=hO b h;omega
    ·have:=(hsat.ok i r h3).lt h4;omega
   refine⟨q,enc l,H,tp',rfl,hK l hz,t1,t2,t3,⟨hs.os,hs.tape,hs.output,hs.size,fun b hb _ ht=>hsame b hb ht,hs.tapes,hs.drawn⟩,fun b h=> .inl h,⟨hsat.dis,fun i r b h1 h2=>?_,fun i r h1=>?_⟩,?_⟩
   ·have:=hsat.out i r b h1 h2
    refine⟨this.1,fun h=>?_⟩
    rcases t2 b h with h|h
    ·exact this.2 h
    ·have:=(hsat.ok i r h1).lt h2;omega
   ·exact(hsat.ok i r h1).conv hmove fun b hb=>hsame b ((hsat.ok i r h1).lt hb) (hsat.out i r b h1 hb).2
   ·have hone:∀i r,ah bU d (some (.row v el n (l.map enc))) i=some r->r= .row v el n (l.map enc):=fun i r h=>by
     unfold ah at h
     split at h
     ·exact(qs8 h).symm
     ·simp at h
    have hfz:FrzTo (ah bU d (some (.row v el n (l.map enc)))) (.own d v) (.list n (l.map enc)):=iX el hrow hn
    have e1:(enc l:D)= .list n (l.map enc):=by subst hn;rfl
    have hRo:R tp' (aP O tp' H w') w' q (.own d v):=by
     cases hR with
     | own _ _ h=>exact .own _ _ h
    rw[e1]
    exact FrzTo.R (H:=H) hfz (fun i r h=>by rw[hone i r h];exact hrk') (fun _ h=>h) (fun i r b h hb=>by rw[hone i r h]at hb;exact hfresh b hb) hRo
end
open Go.Proofs
variable {S:Nat->Spc}
set_option maxRecDepth 100000 in
theorem qbd:UA (Y:=Int) cT cP S (aD (a1 St3)) Lx QB ig 1:=by
 rintro⟨d,s⟩ ⟨⟨r,k,hd,hl⟩,hs⟩
 have hd:d= .cptr (kW r k) 0:=hd
 subst hd
 simp[cT,cP,kW, -Bool.forall_bool, -Bool.exists_bool]
 intro hl1
 refine⟨by omega,by omega,fun v hl2=>?_⟩
 refine ak (X:=List Int) [3,5] [] r.lb.length (fun k z=>z.length=r.lb.length/\∀i,i < k->z[i]? =some (s.get i -1)) (fun _=>[]) (fun z=>[(12, .row v ig 1 (z.map enc))]) (List.replicate r.lb.length 0) (by simp) (by simp) (by omega) (by simp) (by simp) (by simp) (by simp) (by simp) ?_ ?_
 ·rintro j z hj ⟨hz1,hz2⟩
  have hg:=Pu s (k:=j) (by omega)
  have hb:0<=s.get j/\s.get j<=1000000:=hs.2.2 j
  have hjz:j < z.length:=by omega
  simp[hj,hg,hjz, -Bool.forall_bool, -Bool.exists_bool]
  refine⟨by omega,by omega,by simp only[InR];omega,z.set j (s.get j -1),⟨by simp[hz1],fun i hi=>?_⟩, .inl (by rw[qu5];rfl)⟩
  by_cases e:j=i
  ·subst e
   rw[qtY (by omega)]
  ·rw[quY e]
   exact hz2 i (by omega)
 ·rintro z ⟨hz1,hz2⟩
  simp[-Bool.forall_bool, -Bool.exists_bool]
  refine tJ z (by simp[ah]) fun r' k' e=>?_
  have e:D.cptr (kW r k) 0= .cptr (kW r' k') 0:=e
  obtain rfl:=CA e
  refine qtN fun i=>?_
  unfold NG
  rw[qta]
  by_cases hi:i < r.lb.length
  ·rw[hz2 i hi,qtZ hi];rfl
  ·rw[qto (by omega),qto (by simp;omega)];rfl
end Go.Gv
