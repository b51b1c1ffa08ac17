/- A part of the framework and of the walks: W196 W197 V67 W198 W199 T45. -/
import Derived.Test.YtphdikcommfnhaaGreatDoorGg45
import Derived.Test.YtphdikcommfnhaaGreatDoorGg39
import Derived.Test.YtphdikcommfnhaaGreatDoorGg44
import Derived.Test.YtphdikcommfnhaaGreatDoorGg40
set_option linter.unusedSimpArgs false
set_option linter.unusedVariables false
set_option linter.unusedSectionVars false
set_option maxRecDepth 100000

namespace Go.Gv
open Cod (enc dec)
variable {S S0:Nat->Spc}
def qgN(c:Int):Bool:=decide (48<=c/\c<=57)
abbrev Ko:Spc:=aS (a1 U8) (fun _=>True) (enc (X:=Bool)) fun x y=>y=qgN x.val
theorem QO:aq qi pJ S (a1 U8) (fun _=>True) (enc (X:=Bool)) fun x y=>y=Ah x.val:=by
 rintro⟨c⟩ -
 simp[qi,pJ,Ah]
 repeat' first|apply And.intro|intro _
 all_goals first|omega|(rw[qum];simp;omega)
theorem UN:aq sd rj S (a1 U8) (fun _=>True) (enc (X:=Bool)) fun x y=>y=qgN x.val:=by
 rintro⟨c⟩ -
 simp[sd,rj,qgN]
 repeat' first|apply And.intro|intro _
 all_goals first|omega|(rw[qum];simp;omega)
abbrev SP:Spc:=aS a0 (fun _=>True) (enc (X:=List B)) fun _ y=>y=signsL
theorem qbz:aq wB vz S a0 (fun _=>True) (enc (X:=List B)) fun _ y=>y=signsL:=by
 rintro x -
 simp[wB,vz]
 exact cB signsL (.same _) rfl
theorem TA{s:B}{i:Nat}{c:UInt8}(h:s.data[i]? =some c):qcU s i=decide (c.toNat=32\/c.toNat=10):=by rw[qcU,h]
theorem qdD{s:B}{i:Nat}(h:i < s.size):∃c,s.data[i]? =some c:=⟨s.data[i],quK h⟩
theorem Oh(s:B):∀ (n i:Nat),s.size -i=n->i<=s.size->i<=sT s i/\sT s i<=s.size
 | 0,i,h,hi=>by rw[Kh (by omega)];omega
 | n+1,i,h,hi=>by
   rw[AM (by omega)]
   split
   ·have:=Oh s n (i+1) (by omega) (by omega);omega
   ·omega
theorem Gg{s:B}{i:Nat}{c:UInt8}(h:s.data[i]? =some c):Zo s i=(Ah c.toNat||qgN c.toNat||decide ((c.toNat:Int)=45)):=by
 unfold Zo Zi Ah qgN
 rw[h,qum]
 simp
 omega
theorem O7(c:UInt8):Zi c.toNat=Ah (c.toNat:Int):=by unfold Zi Ah;rw[qum];simp;omega
abbrev XZ:Spc:=aS (a1 B) (fun s=>∃r,EZ s=some r) (enc (X:=List Fl)) fun s y=>EZ s=some y
theorem qe1(h1:S rM=yc)(h2:S tV=Ko)(h3:S yM=SP):aq zh yd S (a1 B) (fun s=>∃r,EZ s=some r) (enc (X:=List Fl)) fun s y=>EZ s=some y:=by
 rintro s ⟨fin,hfin⟩
 have hsz:s.size<=100000:=by
  by_cases h:s.size<=100000
  ·exact h
  ·rw[EZ,if_neg h]at hfin;cases hfin
 have hfin0:=hfin
 rw[EZ,if_pos hsz]at hfin
 simp[zh,yd]
 refine ar (X:=Nat×Nat×Value×List Fl) [0] [] (fun z=>G4 z.1 s z.2.1 z.2.2.2=some fin/\z.2.1<=s.size/\z.2.2.2.length<=z.2.1) (fun z=>[(3, .own 200 z.2.2.1),(4,enc (z.2.1:Int))]) (fun z=>[(200, .row z.2.2.1 gF 3 (z.2.2.2.map enc))]) (fun z=>z.1) (100000,0, .slice none 0 0, []) ⟨hfin,by simp,by simp⟩ (by simp) (by simp[isNilRow]) ?_
 clear hfin
 rintro⟨k,i,v,out⟩ ⟨hk,hi,hlen⟩
 simp only at hk hi hlen
 obtain _|k:=k
 ·rw[G4]at hk;cases hk
 rw[G4]at hk
 simp
 refine ba (X:=Unit) [0,3] [200] (fun _=>True) (fun _=>[(4,enc ((sT s i:Nat):Int))]) (fun _=>[]) ?_ ?_
 ·simp
  refine ar (X:=Nat) [0,3] [200] (fun j=>i<=j/\j<=s.size/\sT s j=sT s i) (fun j=>[(4,enc (j:Int))]) (fun _=>[]) (fun j=>s.size -j) i ⟨qtP _,hi,rfl⟩ (by simp) (by simp) ?_
  rintro j ⟨j0,j1,j2⟩
  simp
  refine fun _=>⟨fun hj=>⟨hj,fun c hc=>⟨fun h32=>⟨hj,fun c' hc'=>?_⟩,fun h32=>?_⟩⟩,fun hj=>?_⟩
  ·rw[hc]at hc'
   cases hc'
   have hst:=AM hj
   rw[TA hc]at hst
   refine⟨fun h10=>⟨by simp only[InR];omega,j+1,⟨by omega,by omega,?_⟩,by omega,by omega⟩,fun h10=>?_⟩
   ·rw[<-j2,hst,if_pos (by simp;omega)]
   ·rw[<-j2,hst,if_neg (by simp;omega)]
  ·have hst:=AM hj
   rw[TA hc]at hst
   refine⟨by simp only[InR];omega,j+1,⟨by omega,by omega,?_⟩,by omega,by omega⟩
   rw[<-j2,hst,if_pos (by simp;omega)]
  ·rw[<-j2,Kh hj]
 rintro - -
 have hsk:=Oh s _ i rfl hi
 generalize hi':sT s i=i' at hk hsk
 simp
 refine fun _=>⟨fun he=>⟨by omega,by omega,fun v'=>?_⟩,fun hne=>?_⟩
 ·rw[if_pos (by omega)]at hk
  refine cB fin (gP gF ?_) hfin0
  cases hk
  rw[show(i':Int)=(s.size:Int) by omega]
  simp
 rw[if_neg (by omega)]at hk
 obtain⟨⟨j,t⟩,ht,hk⟩:=qtE.1 hk
 simp only at hk
 split at hk
 ·rename_i hj
  refine ba (X:=Value) [0] [] (fun _=>True) (fun v'=>[(5,enc (j:Int)),(3, .own 200 v')]) (fun v'=>[(200, .row v' gF 3 ((out++ [t]).map enc))]) ?_ ?_
  ·obtain⟨c,hc⟩:=qdD (s:=s) (i:=i') (by omega)
   unfold qiI at ht
   rw[hc]at ht
   simp only at ht
   split at ht
   ·rename_i hL
    cases ht
    have hbeg:Ah (c.toNat:Int)=true:=by rw[<-O7];exact hL
    simp[h1,h2,hc,hbeg]
    refine⟨by omega,?_⟩
    refine ar (X:=Nat) [0,3,4] [200] (fun j=>i'<=j/\j<=s.size/\Ef s j=Ef s i') (fun j=>[(5,enc (j:Int))]) (fun _=>[]) (fun j=>s.size -j) i' ⟨qtP _,by omega,rfl⟩ (by simp) (by simp) ?_
    rintro j ⟨j0,j1,j2⟩
    have go:∀c:UInt8,s.data[j]? =some c->Zo s j=true->InR .i64 ((j:Int) +1)/\∃y,(i'<=y/\y<=s.size/\Ef s y=Ef s i')/\(j:Int) +1=y/\s.size -y < s.size -j:=fun c hc hn=>by
     have hj:j < s.size:=(qtO.1 hc).1
     refine⟨by simp only[InR];omega,j+1,⟨by omega,by omega,?_⟩,by omega,by omega⟩
     rw[<-j2,KI hj,hn,if_pos rfl]
    have stop:Ef s j=j->Ef s i'=j:=fun h=>by rw[<-j2,h]
    simp[h1,h2]
    clear h1 h2 h3 hc hL hbeg
    refine fun _=>⟨fun hj=>⟨hj,fun c hc=>⟨fun b1=>⟨hj,fun c2 hc2=>⟨fun b2=>⟨hj,fun c3 hc3=>⟨fun b3=>?_,fun b3=>?_⟩⟩,fun b2=>?_⟩⟩,fun b1=>?_⟩⟩,fun hj=>?_⟩
    ·rw[hc]at hc3
     cases hc3
     exact go c hc (by rw[Gg hc,decide_eq_true b3];simp)
    ·rw[hc]at hc3 hc2
     cases hc3
     cases hc2
     have e:=stop (by rw[KI hj,Gg hc,b1,b2,decide_eq_false b3];rfl)
     exact⟨j0,j1,by omega,by omega,fun v=>⟨_,⟨by rw[e],rfl⟩, .inl ⟨rfl,by rw[e]⟩⟩⟩
    ·rw[hc]at hc2
     cases hc2
     exact go c hc (by rw[Gg hc,b2];simp)
    ·exact go c hc (by rw[Gg hc,b1];simp)
    ·have e:=stop (YZ hj)
     exact⟨j0,j1,by omega,by omega,fun v=>⟨_,⟨by rw[e],rfl⟩, .inl ⟨rfl,by rw[e]⟩⟩⟩
   rename_i hL
   have hbeg:Ah (c.toNat:Int)=false:=by rw[<-O7];simpa using hL
   split at ht
   ·cases ht
   ·rename_i hD
    have hdg:qgN (c.toNat:Int)=false:=by unfold qgN;rw[decide_eq_false];omega
    split at ht
    ·rename_i hQ
     obtain⟨⟨q,w⟩,hq,ht⟩:=qtR.1 ht
     cases ht
     have hQ':(c.toNat:Int)=34:=by omega
     rw[hQ']at hbeg hdg
     simp[h1,h2,hc,hbeg,hdg,hQ']
     refine⟨by omega,by simp only[InR];omega,?_⟩
     refine ar (X:=Nat×B) [0,3,4] [200] (fun z=>Ru s z.1 z.2=some (q,w)/\z.1<=s.size/\i' < z.1/\z.2.size<=z.1) (fun z=>[(5,enc (z.1:Int)),(6,enc z.2),(7,enc false)]) (fun _=>[]) (fun z=>s.size -z.1) (i'+1,⟨#[]⟩) ⟨hq,by omega,by omega,qub _⟩ (by simp) (by simp) ?_
     rintro⟨j,u⟩ ⟨j0,j1,j2,j3⟩
     simp only at j0 j1 j2 j3
     simp
     clear h1 h2 h3
     refine fun _=>⟨fun hjs=>⟨hjs,fun d hd=>?_⟩,fun hjs=>?_⟩
     ·rw[Vg hd]at j0
      refine⟨fun h34=>⟨by simp only[InR];omega,fun _=>⟨fun hj1=>⟨by simp only[InR];omega,by omega,hj1,fun d' hd'=>⟨fun h34'=>?_,fun h34'=>?_⟩⟩,fun hj1=>?_⟩⟩,fun h34=>?_⟩
      ·rw[if_pos (by omega),hd']at j0
       simp only at j0
       rw[if_pos (by omega)]at j0
       cases j0
      ·rw[if_pos (by omega),hd']at j0
       simp only at j0
       rw[if_neg (by omega)]at j0
       cases j0
       exact⟨by simp only[InR];omega,by omega,by omega,fun v'=>⟨v',⟨rfl,rfl⟩, .inl ⟨rfl,rfl⟩⟩⟩
      ·have hnone:s.data[j+1]? =none:=qu6 (by show s.size<=j+1;omega)
       rw[if_pos (by omega),hnone]at j0
       cases j0
       exact⟨by simp only[InR];omega,by omega,by omega,fun v'=>⟨v',⟨rfl,rfl⟩, .inl ⟨rfl,rfl⟩⟩⟩
      ·rw[if_neg (by omega)]at j0
       refine⟨by simp only[InR];omega,by omega,by omega,by omega,by simp only[InR];omega,j+1,_,⟨j0,by omega,by omega,?_⟩,⟨by omega,rfl⟩,by omega⟩
       rw[ByteArray.size_append,qvZ]
       omega
     ·rw[Yy hjs]at j0
      cases j0
    ·rename_i hQ
     have hQ':¬ (c.toNat:Int)=34:=by omega
     split at ht
     ·cases ht
     ·rename_i x hx
      cases ht
      simp[h1,h2,h3,hc,hbeg,hdg,hQ']
      refine⟨by omega,fun _=>?_⟩
      refine ai (X:=Unit) [0,3,4,5,38] [200] signsL.length (fun k _=>(signsL.drop k).find? (qfR s i')=some x) (fun _=>[]) (fun _=>[]) () (by simp) (by simp) (by decide) (by simp) (by simp) (by simpa using hx) (by simp) (by simp) ?_ ?_
      ·rintro m -hm hP
       obtain⟨y,hy⟩:=dM hm
       obtain⟨_,hgy⟩:=qtG.1 hy
       rw[mQ hy,List.find?_cons]at hP
       have hpre:qfR s i' y=decide (i'+y.size<=s.size/\s.extract i' (i'+y.size)=y):=rfl
       have e1:((i':Int) + (y.size:Int)).toNat=i'+y.size:=by omega
       simp[hm,hy,hgy,e1]
       clear h1 h2 h3
       refine fun _=>⟨by simp only[InR];omega,fun _=>⟨fun hle _=>⟨by simp only[InR];omega,by omega,by omega,fun hex _=>⟨by simp only[InR];omega,fun hz=>?_,fun _=>?_⟩,fun hex=>?_⟩,fun hlt=>?_⟩⟩
       ·rw[hpre,decide_eq_true ⟨by omega,hex⟩]at hP
        cases hP
        omega
       ·rw[hpre,decide_eq_true ⟨by omega,hex⟩]at hP
        cases hP
        exact⟨by omega,by omega,by omega,by omega,fun v'=>⟨v',⟨rfl,rfl⟩, .inl ⟨rfl,rfl⟩⟩⟩
       ·rw[hpre,decide_eq_false (fun h=>hex h.2)]at hP
        exact hP
       ·rw[hpre,decide_eq_false (fun h=>by have:=h.1;omega)]at hP
        exact hP
      ·rintro -hP
       rw[quH]at hP
       cases hP
  ·rintro v' -
   simp
   exact⟨k,j,v',out++ [t],⟨hk,hj.1,by simp;omega⟩,⟨⟨rfl,rfl⟩, .inl ⟨rfl,by simp⟩⟩,by omega⟩
 ·cases hk
end Go.Gv

namespace Go.Gv
open Cod (enc dec)
open Go.Proofs
variable {S S0:Nat->Spc}
def UA:Glob:=⟨0,E0,E0,E0,E0,E0,false,0,0, [], []⟩
@[simp] abbrev Nz(s:Pst)(z:List B×Int):Option (Pst×Int):=if s.e=0/\0<=z.2 then(vW s).bind fun t=>if t.kind≠110 then some (s, -1)else none else none
abbrev XT:Spc:=Rw (a2 (List B) Int) (enc (X:=Int)) Nz
theorem qeZ(h1:S gw=qcc):nr kY kF S (a2 (List B) Int) (enc (X:=Int)) (fun s z=>∃r,Nz s z=some r) (fun s z s' y=>Nz s z=some (s',y)):=by
 rintro b s ⟨l,i⟩ ⟨r,hr⟩
 have hr0:=hr
 simp only[Nz]at hr
 split at hr
 ·rename_i he
  obtain⟨he,hi0⟩:=he
  have hi0:0<=i:=hi0
  obtain⟨t,ht,hr⟩:=qtE.1 hr
  split at hr
  ·rename_i hk
   cases hr
   simp[kY,kF]
   refine ar (X:=Int) [0,1] [0] (fun j=>0<=j) (fun j=>[(7,enc j)]) (fun _=>[]) (fun j=>(l.length -j).toNat) i hi0 (by simp) (by simp) ?_
   intro j hj
   have hj:0<=j:=hj
   have hno:∀x:B,TB s 110 x=some false:=fun x=>by rw[Gf he ht,decide_eq_false];exact fun h=>hk h.1
   simp[h1,hno]
   exact fun _=>⟨fun hl=>⟨hj,hl,fun a _=>⟨by simp only[InR];omega,j+1,by omega,rfl,by omega⟩⟩,fun _=>qqb s (by simp) ⟨⟨he,hi0⟩,by rw[ht];simp[hk]⟩⟩
  ·cases hr
 ·cases hr
abbrev SN:Spc:=aS a0 (fun _=>True) (enc (X:=List B)) fun _ _=>True
theorem UQ:aq se rk S a0 (fun _=>True) (enc (X:=List B)) fun _ _=>True:=by
 rintro x -
 simp[se,rk]
 exact cB (Y:=List B) [⟨#[]⟩,⟨#[119,105,116,104,105,110]⟩,⟨#[99,111,110,116,97,105,110,105,110,103]⟩,⟨#[111,118,101,114,108,97,112,112,105,110,103]⟩] (.same _) trivial
def Us(s:B)(y:Qry×Int×Int):Prop:=∃p,DX s=some p/\y=(⟨p,UA, [],0⟩,0,0)
abbrev Tf:Spc:=aS (a1 B) (fun s=>∃p,DX s=some p) (qex (Y:=Qry) (Z:=Int) (W:=Int)) Us
theorem qde{H:ab}{l l':List D}(h:FzL H l l'):FrzTo H (.agg l) (.agg l'):= .agg h.get.1 h.get.2
theorem qbO(h1:S Bv=XZ)(h2:S nV=qeh)(h3:S dc=Kq)(h4:S tW=SN)(h5:S mE=XT)(h6:S gw=qcc)(h7:S cw=G7):
 aq wC vA S (a1 B) (fun s=>∃p,DX s=some p) (qex (Y:=Qry) (Z:=Int) (W:=Int)) Us:=by
 rintro s ⟨p,hp⟩
 have hp0:=hp
 unfold DX at hp
 split at hp
 ·rename_i hsz
  obtain⟨l,hl,hp⟩:=qtE.1 hp
  obtain⟨⟨s1,p1⟩,ha,hp⟩:=qtE.1 hp
  simp only at hp
  split at hp
  ·cases hp
  rename_i he
  have he:s1.e=0:=by simpa using he
  obtain⟨t,ht,hp⟩:=qtE.1 hp
  split at hp
  ·rename_i hk
   cases hp
   have hex:∃y,EZ s=some y:=⟨l,hl⟩
   have n1:qf s1 ⟨#[58,58]⟩=some (s1,false):=wy he ht (by omega)
   have n2:qf s1 ⟨#[33]⟩=some (s1,false):=wy he ht (by omega)
   have n3:TB s1 110 ⟨#[115,116,114,97,116,101,103,121]⟩=some false:=by rw[Gf he ht,decide_eq_false];omega
   have hsz':¬ (400:Int) < s.size:=by omega
   simp[wC,vA,h1,hsz',hex, -Bool.forall_bool]
   intro b2 _ l' hl' b16
   rw[hl]at hl'
   cases hl'
   simp[h2,ha,h3,n1]
   intro b6
   refine ba (X:=Unit) [2,5,6] [2,6,16] (fun _=>True) (fun _=>[]) (fun _=>[]) ?_ ?_
   ·simp
    refine ar (X:=Unit) [2,5,6] [2,6,16] (fun _=>True) (fun _=>[]) (fun _=>[]) (fun _=>0) () trivial (by simp) (by simp) ?_
    rintro - -
    simp[h3,h4,h5,he,De he,n2,ht,hk]
   rintro - -
   refine ba (X:=Unit) [2,5,6] [2,6,16] (fun _=>True) (fun _=>[]) (fun _=>[]) ?_ ?_
   ·simp[h6,n3]
   rintro - -
   refine ba (X:=Unit) [2,5,6] [2,6,16] (fun _=>True) (fun _=>[]) (fun _=>[]) ?_ ?_
   ·simp[h7,he,De he,ht,hk]
   rintro - -
   simp[he]
   refine⟨⟨p,UA, [],0⟩,qde ?_,p,hp0,rfl⟩
   simp[UA,E0]
  ·cases hp
 ·cases hp
end Go.Gv

namespace Go.Gv
open Go.Proofs
def qgm:List B:=[⟨#[97]⟩,⟨#[98]⟩]
def knX:sH:=⟨⟨#[116]⟩,0,4, []⟩
def knR:Rn:=Hm plC qgm knX
def qhS:Pat:=⟨1,⟨2,E0,E0,⟨#[97]⟩,E0,false, []⟩,⟨#[97]⟩,E0,0,0, []⟩
def qhR:Pat:=⟨1,⟨2,E0,E0,⟨#[98]⟩,E0,false, []⟩,⟨#[98]⟩,E0,0,0, []⟩
def qgl:Pat:=⟨1,⟨1,E0,E0,E0,E0,false, []⟩,E0,E0,0,0, []⟩
def qgk:Pat:=⟨6,jh,E0,E0,0, -1, [qgl]⟩
theorem C3:aw C5 []=qgm:=by kernel_rfl
theorem VZ:aC C5=[qhS,qgl,qhR]:=by kernel_rfl
theorem Ty:(decide (jX C5<=256) && decide (pY C5<=1000))=true:=by kernel_rfl
theorem qjB:([qhS,qgl,qhR].all fun x=>qbr plC.attrs qgm x.cond)=true:=by kernel_rfl
theorem qcO(vs:List Int)(q:Pat)(hq:q=qhS\/q=qhR\/q=qgl):((List.range 4).all fun i=>(wi ⟨plC,(i:Int),qgm,vs⟩ 21 q.cond).isSome)=true:=by
 rcases hq with rfl|rfl|rfl <;> kernel_rfl
theorem qgj:((List.range 4).map fun(i:Nat)=>PO knR C5 (LX (i:Int)))=[[⟨2,1,2,0⟩,⟨4,1,4,0⟩], [], [⟨4,3,4,0⟩], []]:=by kernel_rfl
theorem Zl{b:B}(h:b=⟨#[97]⟩\/b=⟨#[98]⟩):bT b=true:=by
 rw[vr]
 rcases h with rfl|rfl
 all_goals
  refine⟨by decide,by decide,fun c hc=>by cases hc;rfl,fun k c hc=>?_⟩
  rcases k with _|k
  ·cases hc;rfl
  ·simp at hc
theorem H8{C:Pat->Prop}(h0:C C5)(h1:C qgk)(h2:C qhS)(h3:C qhR)(h4:C qgl):jv C C5:=by
 intro q hq
 have:q∈ [C5,qhS,qgk,qgl,qhR]:=hq
 simp only[qtM,quc,or_false]at this
 rcases this with rfl|rfl|rfl|rfl|rfl
 ·exact h0
 ·exact h2
 ·exact h1
 ·exact h4
 ·exact h3
theorem Ge:jv (fun q=>uA q/\xG q=true/\uS bT q=true) C5:=by
 have v0:∀q:Pat,q.op≠2->q.op≠3->(q.lab≠ ⟨#[]⟩->bT q.lab=true)->uS bT q=true:=fun q h2 h3 h=>by
  unfold uS
  rw[decide_eq_true_eq]
  exact⟨fun h'=>by omega,h⟩
 refine H8 ⟨.inr (.inr (.inl ⟨.inl rfl,rfl,rfl,rfl,rfl,rfl,by decide⟩)),rfl,v0 _ (by decide) (by decide) fun h=>absurd rfl h⟩
  ⟨.inr (.inr (.inr ⟨rfl,rfl,rfl,rfl,rfl⟩)),rfl,v0 _ (by decide) (by decide) fun h=>absurd rfl h⟩
  ⟨.inl ⟨rfl,rfl,rfl,rfl,rfl⟩,rfl,v0 _ (by decide) (by decide) fun _=>Zl (.inl rfl)⟩ ⟨.inl ⟨rfl,rfl,rfl,rfl,rfl⟩,rfl,v0 _ (by decide) (by decide) fun _=>Zl (.inr rfl)⟩
  ⟨.inl ⟨rfl,rfl,rfl,rfl,rfl⟩,rfl,v0 _ (by decide) (by decide) fun h=>absurd rfl h⟩
theorem AS{f:Pat->Bool}(p:Pat)(h:jv (fun q=>f q=true) p):eC f p=true:=by
 induction p using kw with|_ p ih=>?_
 rw[eb,jl h,qvu,qtL]
 exact fun k hk=>ih k hk (pr h hk)
theorem Zm:pW bT C5=true:=by
 unfold pW
 rw[AS C5 (qT Ge fun q h=>(zK q).2 h.1),AS C5 (qT Ge fun q h=>h.2.2),AS C5 (qT Ge fun q h=>h.2.1)]
 rfl
theorem qgh:qij plC.attrs ⟨C5,nt, [],0⟩:=by
 have hn:=Ty
 simp only[qtN,decide_eq_true_eq]at hn
 refine⟨rfl,rfl,rfl,Zm,hn.1,by rw[C3];decide,by show pY C5<=1000000;omega,by decide,fun x hx=>?_⟩
 have hx:x∈aC C5:=hx
 rw[VZ]at hx
 have h:=qtL.1 qjB x hx
 rw[show aw (Qry.mk C5 nt [] 0).pat []=qgm from C3]
 refine⟨h,1,?_⟩
 simp only[qtM,quc,or_false]at hx
 rcases hx with rfl|rfl|rfl <;> exact⟨by decide,fun k hk=>by cases hk⟩
theorem RM{q:Pat}(hq:q=qhS\/q=qhR\/q=qgl)(s:St3)(h:QB knR.en s)(h2:s.p < knR.en):∃y,zV knR q s=some y:=by
 have h2:s.p < 4:=h2
 have h0:=h.1
 obtain⟨i,hi,e⟩:∃i:Nat,i < 4/\(i:Int)=s.p:=⟨s.p.toNat,by omega,by omega⟩
 have:=qtL.1 (qcO (Nl knR s) q hq) i (qve.2 hi)
 unfold zV
 rw[<-e]
 exact quB.1 this
theorem qgi:QD plC C5:=by
 have hn:=Ty
 simp only[qtN,decide_eq_true_eq]at hn
 refine⟨⟨by decide,by decide,by decide⟩,by decide,Zm,by rw[C3];decide,by omega,fun t ht=>?_⟩
 have e:t=knX:=by simpa [plC,knX]using ht
 subst e
 rw[C3]
 have hop:∀q:Pat,q.op≠1->uA q->xG q=true->(q.lab≠qz->kb qgm q.lab=true)->qbu knR q:=fun q h1 h2 h3 h4=>⟨h2,h3,h4,fun h=>absurd h h1⟩
 have g:=Ge
 refine H8 (hop _ (by decide) (g C5 (by simp[E9])).1 rfl fun h=>absurd rfl h) (hop _ (by decide) (g qgk (.tail _ (.tail _ (.head _)))).1 rfl fun h=>absurd rfl h) ⟨.inl ⟨rfl,rfl,rfl,rfl,rfl⟩,rfl,fun _=>rfl,fun _=>RM (.inl rfl)⟩ ⟨.inl ⟨rfl,rfl,rfl,rfl,rfl⟩,rfl,fun _=>rfl,fun _=>RM (.inr (.inl rfl))⟩ ⟨.inl ⟨rfl,rfl,rfl,rfl,rfl⟩,rfl,fun h=>absurd rfl h,fun _=>RM (.inr (.inr rfl))⟩
theorem qjC:qkY plC ⟨C5,nt, [],0⟩:=⟨qgh,qgi⟩
def knM:List Match:=[⟨0,2, [0,1]⟩,⟨0,4, [0,3]⟩,⟨2,4, [2,3]⟩]
theorem MJ{i:Int}(h0:0<=i)(h1:i < 4):UZ plC i=some knX:=by
 unfold UZ
 show List.find? _ [knX]=_
 rw[List.find?_cons,show(decide (knX.b<=i) && decide (i < knX.e))=true by rw[qtN,decide_eq_true_iff,decide_eq_true_iff];exact⟨h0,h1⟩]
theorem qjD:J7 plC qgm C5 knM:=by
 refine⟨.cons (fun x hx=>?_) (.cons (fun x hx=>?_) (.cons (fun x hx=>by cases hx) .nil)),fun m=>?_⟩
 ·simp only[qtM,quc,or_false]at hx
  rcases hx with rfl|rfl <;> (unfold OZ;decide)
 ·simp only[qtM,quc,or_false]at hx
  subst hx
  (unfold OZ;decide)
 have hd:∀i:Nat,i < 4->∀s,jW knR C5 (LX (i:Int)) s↔s∈PO knR C5 (LX (i:Int)):=fun i hi s=>by
  refine(zG knR (by decide) C5 ?_ (LX (i:Int)) ⟨by simp[LX],?_,fun j=>?_⟩ s).symm
  ·exact H8 (.inr (.inr (.inr (.inl rfl)))) (.inr (.inr (.inr (.inr (.inr (by decide)))))) (.inl rfl) (.inl rfl) (.inl rfl)
  ·show(i:Int)<=4;omega
  ·rcases j with _|_|j <;> exact⟨qvv 0,(by decide:(0:Int)<=4)⟩
 have hk:=qgj
 simp only[List.range,List.range.loop,qt7,quU,qt5,and_true]at hk
 obtain⟨e0,e1,e2,e3⟩:=hk
 constructor
 ·intro hm
  simp only[knM,qtM,quc,or_false]at hm
  rcases hm with rfl|rfl|rfl
  ·exact⟨by decide,by decide,knX,MJ (by decide) (by decide),⟨2,1,2,0⟩,(hd 0 (by decide) _).2 (by rw[e0];simp),by decide,rfl,rfl⟩
  ·exact⟨by decide,by decide,knX,MJ (by decide) (by decide),⟨4,1,4,0⟩,(hd 0 (by decide) _).2 (by rw[e0];simp),by decide,rfl,rfl⟩
  ·exact⟨by decide,by decide,knX,MJ (by decide) (by decide),⟨4,3,4,0⟩,(hd 2 (by decide) _).2 (by rw[e2];simp),by decide,rfl,rfl⟩
 ·rintro⟨h0,h1,t,ht,s,hs,h3,h4,h5⟩
  obtain⟨b,e,l⟩:=m
  simp only at h0 h1 ht hs h3 h4 h5
  have h1:b < 4:=h1
  rw[MJ h0 h1]at ht
  cases ht
  obtain⟨i,hi,rfl⟩:∃i:Nat,i < 4/\(i:Int)=b:=⟨b.toNat,by omega,by omega⟩
  have hs:=(hd i hi s).1 hs
  subst h4 h5
  rcases i with _|_|_|_|i
  ·rw[e0]at hs
   simp only[qtM,quc,or_false]at hs
   rcases hs with rfl|rfl
   ·exact .head _
   ·exact .tail _ (.head _)
  ·rw[e1]at hs;cases hs
  ·rw[e2]at hs
   simp only[qtM,quc,or_false]at hs
   subst hs
   exact .tail _ (.tail _ (.head _))
  ·rw[e3]at hs;cases hs
  ·omega
end Go.Gv

namespace Go.Gv
open Go.Proofs
open Cod (enc dec)
variable {S S0:Nat->Spc}
abbrev Kn:Spc:=aS a0 (fun _=>True) enc (fun(_:Unit) (y:Bool)=>y=true)
theorem UM(h1:S yN=Tf)(h2:S ub=ST)(h3:S gz=qeg)(h4:S wl=L2):aq sy rD S a0 (fun _=>True) enc (fun(_:Unit) (y:Bool)=>y=true):=by
 rintro x -
 have hex:∃p,DX ⟨#[97,58,34,97,34,32,91,93,42,32,98,58,34,98,34]⟩=some p:=⟨_,KS⟩
 simp[sy,rD,h1,hex, -Bool.forall_bool, -Bool.exists_bool]
 rintro q a b ⟨p,hp,e⟩ b1
 cases e
 have e:p=C5:=qtV (hp.symm.trans KS)
 subst e
 have hM:qkY plC ⟨C5,UA, [],0⟩:=qjC
 have hpl:(⟨#[97,98,97,98]⟩:B)=abT:=rfl
 simp[h2,h3,h4,hpl, -Bool.forall_bool, -Bool.exists_bool]
 have hi:J7 plC (aw C5 []) C5 knM:=by rw[C3];exact qjD
 refine⟨hM,fun l e hq=>?_⟩
 rcases hq with⟨h1,h2,h3⟩|⟨_,_,k,l',h3,h4⟩
 ·have e1:l=knM:=qcV h2 hi
  subst e1
  refine⟨fun _=>⟨⟨fun m hm=>?_,?_,?_,?_⟩,fun y hy=>hy.2 rfl⟩,h1⟩
  ·simp only[knM,qtM,quc,or_false]at hm
   rcases hm with rfl|rfl|rfl <;> (unfold Bq;decide)
  ·unfold Bq;decide
  ·unfold Bq;decide
  ·unfold Bq;decide
 ·have h5:=qfq h3 hi
  have:knM.length=3:=rfl
  omega
end Go.Gv

namespace Go.Gv
open Go.Proofs
open Cod (enc dec)
variable {S S0:Nat->Spc}
end Go.Gv

namespace Go.Gv
open Cod (enc dec)
theorem ZK{ds:List D}(h:∀d∈ds,QE d):QE (.agg ds):=fun tp I tp' I' w w' x hr=>by
 cases hr with
 | agg xs _ hl h1' hk=>exact .agg xs _ hl h1' fun k y c h1 h2=>h c (qtJ h2) _ _ _ _ _ _ _ (hk k y c h1 h2)
section
variable {X Y:Type}[Cod Y]
theorem NY{P:Program}{f:Nat}{A:cM X}{pre:D×X->Prop}{post:D×X->List Y->Prop}{el n:Nat}(hn:n=Cod.wd Y)(hf:Tri P f (qjY (Y:=Y) (aD A) pre post el n).pt)(hflat:∀y:Y,∀c∈ (enc y).cells,QE c):Tri P f (qeF A pre (enc (X:=List Y)) post).pt:=by
 intro O tp w vs ds H d K hO htl hsat hlen hargs hA
 obtain⟨id,bk,cells,ds',x,rfl,hd,hid,hp,hK⟩:=hA
 cases vs with
 | nil=>simp at hlen
 | cons v0 vs=>
   have hv0:v0= .pointer (some ⟨bk,0,none⟩):=by
    have:=hargs 0 v0 (.bptr id bk 0) rfl rfl
    cases this;rfl
   subst hv0
   let O':Nat->Prop:=fun b=>O b\/ ∃i r,i≠id/\H i=some r/\r.blk=some b
   have himm:∀b,aM O tp H w b->aM O' tp bB w b:=fun b hb=>⟨hb.1,fun h=>h.elim hb.2.1 fun⟨i,r,_,h1,h2⟩=>hb.2.2.2 ⟨i,r,h1,h2⟩,hb.2.2.1,fun⟨i,r,h1,_⟩=>by simp at h1⟩
   have hmv:∀y e,R tp (aM O tp H w) w y e->R tp (aM O' tp bB w) w y e:=fun y e hr=>hr.mono (fun _ h=>h) (fun b hb=>⟨himm b hb,rfl⟩) (fun b _=> .refl _ _)
   have hl:R tp (aM O' tp bB w) w (.pointer (some ⟨bk,0,none⟩)) (.cptr cells 0):=by
    have hbk:(Res.box bk cells).blk=some bk:=rfl
    have h1:=hsat.out id _ bk hid hbk
    have hI:aM O' tp bB w bk:=⟨(hsat.ok id _ hid).lt hbk,fun h=>h.elim h1.1 fun⟨i,r,hne,h2,h3⟩=>hne (hsat.dis _ _ _ _ bk h2 hid h3 hbk),h1.2,fun⟨i,r,h2,_⟩=>by simp at h2⟩
    obtain⟨xs,el,g1,g2,g3⟩:=(hsat.ok id _ hid).conv hmv (fun _ _=>rfl)
    obtain⟨f,k1,k2,k3⟩:=ox g1 g2 g3
    have:=R.cptr (tp:=tp) bk 0 cells 0 f hI (fun _=>⟨_,_,g1⟩) k1 k2 k3
    simpa using this
   have hdec:(aD A).dec (.cptr cells 0::ds')=some (.cptr cells 0,x):=by simp[hd]
   obtain⟨hce,hc⟩:=hf O' tp w (.pointer (some ⟨bk,0,none⟩)::vs) (.cptr cells 0::ds') bB d (fun r H'=>∃v l,r= .own d v/\post (.cptr cells 0,x) l/\H'=ah bB d (some (.row v el n (l.map enc))))
    (fun b hb=>hb.elim (hO b) fun⟨i,r,_,h1,h2⟩=>(hsat.ok i r h1).lt h2) (htl.mono fun b ⟨i,r,h,_⟩=>by simp at h) ⟨fun i j r s b h=>by simp at h,fun i r b h=>by simp at h,fun i r h=>by simp at h⟩ (by simpa using hlen)
    (fun k y e h1 h2=>by
      cases k with
      | zero=>simp at h1 h2;subst h1;subst h2;exact hl
      | succ k=>simp at h1 h2;exact hmv _ _ (hargs (k+1) y e (by simpa using h1) (by simpa using h2)))
    (by rw[ZI,hdec];exact⟨hp,fun v l hz=>⟨v,l,rfl,hz,rfl⟩⟩)
   refine⟨hce,hc.mono ?_⟩
   rintro e w' ⟨q,r,H',tp',rfl,⟨v,l,rfl,hz,rfl⟩,t1,t2,t3,hs,ho,hsat',hR⟩
   have hsame:∀b,b < w.heap.size->¬tp b->w'.heap[b]? =w.heap[b]?:=fun b hb ht=>hs.same b hb (fun⟨i,r,h,_⟩=>by simp at h) ht
   have hmove:∀y e,R tp (aM O tp H w) w y e->R tp' (aM O tp' H w') w' y e:=fun y e hr=>hr.mono t1 (fun b hb=>⟨⟨qt1 hb.1 hs.size,hb.2.1,fun h=>by
    rcases t2 b h with h|h
    ·exact hb.2.2.1 h
    ·have:=hb.1;omega,hb.2.2.2⟩,hsame b hb.1 hb.2.2.1⟩) hs.tapes
   have hrow:ah bB d (some (.row v el n (l.map enc))) d=some (.row v el n (l.map enc)):=by simp[ah]
   have hrk:=hsat'.ok d _ hrow
   have hrk':ResOk (R tp' (aM O tp' H w') w') w' (.row v el n (l.map enc)):=by
    obtain⟨xs,g1,g2,g3⟩:=hrk
    refine⟨xs,g1,g2,fun k y c h1 h2=>⟨(g3 k y c h1 h2).1,?_⟩⟩
    have hm:c∈aU (l.map enc):=qtJ h2
    obtain⟨e,he,hce⟩:=quM.1 hm
    obtain⟨y',_,rfl⟩:=qtU.1 he
    exact hflat y' c hce _ _ _ _ _ _ _ (g3 k y c h1 h2).2
   have hfresh:∀b,(Res.row v el n (l.map enc)).blk=some b->aM O tp' H w' b:=fun b hb=>by
    have h1:=ho b ⟨d,_,hrow,hb⟩
    have h2:w.heap.size<=b:=h1.elim (fun⟨i,r,h,_⟩=>by simp at h) fun h=>h
    refine⟨hrk.lt hb,fun h=>?_,(hsat'.out d _ b hrow hb).2,fun⟨i,r,h3,h4⟩=>?_⟩
    ·have:=hO b h;omega
    ·have:=(hsat.ok i r h3).lt h4;omega
   refine⟨q,enc l,H,tp',rfl,hK l hz,t1,t2,t3,⟨hs.os,hs.tape,hs.output,hs.size,fun b hb _ ht=>hsame b hb ht,hs.tapes,hs.drawn⟩,fun b h=> .inl h,⟨hsat.dis,fun i r b h1 h2=>?_,fun i r h1=>?_⟩,?_⟩
   ·have:=hsat.out i r b h1 h2
    refine⟨this.1,fun h=>?_⟩
    rcases t2 b h with h|h
    ·exact this.2 h
    ·have:=(hsat.ok i r h1).lt h2;omega
   ·exact(hsat.ok i r h1).conv hmove fun b hb=>hsame b ((hsat.ok i r h1).lt hb) (hsat.out i r b h1 hb).2
   ·have hone:∀i r,ah bB d (some (.row v el n (l.map enc))) i=some r->r= .row v el n (l.map enc):=fun i r h=>by
     unfold ah at h
     split at h
     ·exact(qtV h).symm
     ·simp at h
    have hfz:FrzTo (ah bB d (some (.row v el n (l.map enc)))) (.own d v) (.list n (l.map enc)):=gP el hrow hn
    have e1:(enc l:D)= .list n (l.map enc):=by subst hn;rfl
    have hRo:R tp' (aM O tp' H w') w' q (.own d v):=by
     cases hR with
     | own _ _ h=>exact .own _ _ h
    rw[e1]
    exact FrzTo.R (H:=H) hfz (fun i r h=>by rw[hone i r h];exact hrk') (fun _ h=>h) (fun i r b h hb=>by rw[hone i r h]at hb;exact hfresh b hb) hRo
end
open Go.Proofs
variable {S:Nat->Spc}
set_option maxRecDepth 100000 in
theorem qbF:Up (Y:=Int) cy cp S (aD (a1 St3)) Lm Qv gE 1:=by
 rintro⟨d,s⟩ ⟨⟨r,k,hd,hl⟩,hs⟩
 have hd:d= .cptr (ku r k) 0:=hd
 subst hd
 simp[cy,cp,ku, -Bool.forall_bool, -Bool.exists_bool]
 intro hl1
 refine⟨by omega,by omega,fun v hl2=>?_⟩
 refine ai (X:=List Int) [3,5] [] r.lb.length (fun k z=>z.length=r.lb.length/\∀i,i < k->z[i]? =some (s.get i -1)) (fun _=>[]) (fun z=>[(12, .row v gE 1 (z.map enc))]) (List.replicate r.lb.length 0) (by simp) (by simp) (by omega) (by simp) (by simp) (by simp) (by simp) (by simp) ?_ ?_
 ·rintro j z hj ⟨hz1,hz2⟩
  have hg:=Pm s (k:=j) (by omega)
  have hb:0<=s.get j/\s.get j<=1000000:=hs.2.2 j
  have hjz:j < z.length:=by omega
  simp[hj,hg,hjz, -Bool.forall_bool, -Bool.exists_bool]
  refine⟨by omega,by omega,by simp only[InR];omega,z.set j (s.get j -1),⟨by simp[hz1],fun i hi=>?_⟩, .inl (by rw[qvS];rfl)⟩
  by_cases e:j=i
  ·subst e
   rw[quO (by omega)]
  ·rw[qvM e]
   exact hz2 i (by omega)
 ·rintro z ⟨hz1,hz2⟩
  simp[-Bool.forall_bool, -Bool.exists_bool]
  refine te z (by simp[ah]) fun r' k' e=>?_
  have e:D.cptr (ku r k) 0= .cptr (ku r' k') 0:=e
  obtain rfl:=Ct e
  refine quC fun i=>?_
  unfold Nl
  rw[qtX]
  by_cases hi:i < r.lb.length
  ·rw[hz2 i hi,quP hi];rfl
  ·rw[qua (by omega),qua (by simp;omega)];rfl
end Go.Gv
