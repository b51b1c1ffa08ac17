/- A part of the framework and of the walks: V56 W161 W162 V4 V11 V6 V7 V8 V12 V13 C2 W2 W31 V15 V16 T24 V18 V19 V58. -/
import Derived.Test.YticbieanhfdnoaaGreatDoorGb33
import Derived.Test.YticbieanhfdnoaaGreatDoorGb23
import Derived.Test.YticbieanhfdnoaaGreatDoorGb26
import Derived.Test.YticbieanhfdnoaaGreatDoorGb25
import Derived.Test.YticbieanhfdnoaaGreatDoorGb18
import Derived.Test.YticbieanhfdnoaaGreatDoorGb20
import Derived.Test.YticbieanhfdnoaaGreatDoorGb19
import Derived.Test.YticbieanhfdnoaaGreatDoorGb16
import Derived.Test.YticbieanhfdnoaaGreatDoorGb27
set_option linter.unusedSimpArgs false
set_option linter.unusedVariables false
set_option maxRecDepth 100000
set_option linter.unusedSectionVars false

namespace Go.Gv
open Go.Proofs
def valsA:List B:= [⟨#[97]⟩,⟨#[98]⟩,⟨#[97,46,42]⟩,⟨#[91,97,98,93]⟩,⟨#[88]⟩,⟨#[]⟩,⟨#[99,63]⟩,⟨#[97,124,98]⟩,⟨#[89]⟩,⟨#[111,46,42]⟩,⟨#[78]⟩,⟨#[97,124,88]⟩]
def wordsA:List B:= [⟨#[97]⟩,⟨#[98]⟩,⟨#[99]⟩,⟨#[65]⟩,⟨#[97,98]⟩,⟨#[]⟩,⟨#[88]⟩,⟨#[89]⟩,⟨#[116,104,101]⟩,⟨#[111,108,100]⟩,⟨#[109,97,110]⟩,⟨#[68]⟩,⟨#[65]⟩,⟨#[78]⟩,⟨#[124]⟩,⟨#[124,112,124]⟩,⟨#[124,112,124,113,124]⟩,⟨#[124,113,124]⟩]
def QX:Bool:=valsA.all fun v=> wordsA.all fun w=> (tt v w false).isSome && (tt v w true).isSome
theorem M9:QX=true:=by kernel_rfl
theorem zx {v w:B} (hv:v∈valsA) (hw:w∈wordsA) (f:Bool): ∃y,tt v w f=some y:=by
 have h:=List.all_eq_true.1 (List.all_eq_true.1 M9 v hv) w hw
 simp only[Bool.and_eq_true] at h
 cases f
 ·exact Option.isSome_iff_exists.1 h.1
 ·exact Option.isSome_iff_exists.1 h.2
end Go.Gv

namespace Go.Gv
open Go.Proofs
open Cod (enc dec)
variable {S S0:Nat→Spc}
theorem Ns {H0 H:aa} (hh: ∀i,H0 i=none) {d d':D} (h:FrzTo H0 d d'):FrzTo H d d':=by
 induction h with
 | same d=> exact .same d
 | any d=> exact .any d
 | nil n=> exact .nil n
 | own i j x=> exact .own i j x
 | nilown j=> exact .nilown j
 | bptr i j b off=> exact .bptr i j b off
 | row h _ _ _ _=> rw[hh] at h;cases h
 | sub h _ _ _ _=> rw[hh] at h;cases h
 | list hl hk _ ih=> exact .list hl hk ih
 | box h=> rw[hh] at h;cases h
 | agg hl _ ih=> exact .agg hl ih
 | tup hl _ ih=> exact .tup hl ih
theorem Nr {H:aa} {d d':D} (h:FrzTo di d d'):FrzTo H d d':=Ns (fun _=> rfl) h
def exC:Corpus:=⟨[⟨⟨#[119,111,114,100]⟩,false⟩,⟨⟨#[112,111,115]⟩,false⟩], [[⟨#[116,104,101]⟩,⟨#[68]⟩], [⟨#[111,108,100]⟩,⟨#[65]⟩], [⟨#[109,97,110]⟩,⟨#[78]⟩]], [⟨⟨#[116]⟩,0,3, []⟩], [], [], [], []⟩
abbrev Kr:Spc:=cz a0 (fun _=> True) (enc (X:=Corpus)) fun _ y=> y=exC
theorem yl:aK lM lA S a0 (fun _=> True) (enc (X:=Corpus)) fun _ y=> y=exC:=by
 rintro⟨⟩ -
 simp[lM,lA, -Bool.forall_bool, -Bool.exists_bool]
 intro b
 refine dK exC ?_ rfl
 have h: ∀d,dec (X:=Corpus) d=some exC→ ∀H,FrzTo H d (enc exC):=fun d hd H=> by
  have:=Cod.le (X:=Corpus) d exC hd
  exact Nr this
 exact h _ (by simp[exC]) _
def Ny:Cond:=⟨2,gj,gj,⟨#[111,46,42]⟩,gj,false, []⟩
def Nx:Cond:=⟨8,gj,gj,gj,gj,false, [⟨4,⟨#[119,111,114,100]⟩,⟨#[119,111,114,100]⟩,gj,⟨#[97]⟩,false, []⟩,⟨2,⟨#[112,111,115]⟩,gj,⟨#[78]⟩,gj,false, []⟩]⟩
theorem VZ:Gn exC Ny= [1]:=by kernel_rfl
theorem VY:Gn exC Nx= [0,1,2]:=by kernel_rfl
theorem Wq: (KO exC.attrs [] (jE Ny) && (List.range 3).all fun i=> (jg ⟨exC,(i:Int), [], []⟩ 21 (jE Ny)).isSome)=true:=by kernel_rfl
theorem Wp: (KO exC.attrs [] (jE Nx) && (List.range 3).all fun i=> (jg ⟨exC,(i:Int), [], []⟩ 21 (jE Nx)).isSome)=true:=by kernel_rfl
theorem qdC:N3 exC:=⟨by decide,by decide,by decide⟩
theorem Km {x:Cond} (h1:f9 x≤60) (h2:dH x≤60) (h: (KO exC.attrs [] (jE x) && (List.range 3).all fun i=> (jg ⟨exC,(i:Int), [], []⟩ 21 (jE x)).isSome)=true):FO (exC,x):=by
 simp only[Bool.and_eq_true] at h
 exact⟨qdC,h1,h2,h.1,fun i hi=> Option.isSome_iff_exists.1 (List.all_eq_true.1 h.2 i (List.mem_range.2 hi))⟩
def uE (a b:List Int):Bool:=decide (a=b)
abbrev GK:Spc:=cz (a2 (List Int) (List Int)) (fun x=> x.1.length≤100000∧x.2.length≤100000) (enc (X:=Bool)) fun x y=> y=uE x.1 x.2
theorem FX:aK nh nc S (a2 (List Int) (List Int)) (fun x=> x.1.length≤100000∧x.2.length≤100000) (enc (X:=Bool)) fun x y=> y=uE x.1 x.2:=by
 rintro⟨a,b⟩ ⟨la,lb⟩
 simp only at la lb
 have la': (a.length:Int)≤9223372036854775807:=by omega
 have lb': (b.length:Int)≤9223372036854775807:=by omega
 by_cases hl:a.length=b.length
 ·have hli: (a.length:Int)=b.length:=by omega
  simp[nh,nc,la',lb',hl,hli, -Bool.forall_bool, -Bool.exists_bool]
  refine ar (X:=Unit) [0,1] [] b.length (fun k _=> a.take k=b.take k) (fun _=> []) (fun _=> []) () (by simp) (by simp) (by omega) (by simp) (by simp) (by simp) (by simp) (by simp) ?_ ?_
  ·rintro k -hk hP
   have hka:k < a.length:=by omega
   obtain⟨x,hx⟩:=kD hka
   obtain⟨y,hy⟩:=kD hk
   obtain⟨_,hgx⟩:=List.getElem?_eq_some_iff.1 hx
   obtain⟨_,hgy⟩:=List.getElem?_eq_some_iff.1 hy
   have hab:uE a b=decide (a=b):=rfl
   by_cases hxy:x=y
   ·subst hxy
    simp[hk,hka,hx,hy,hgx,hgy, -Bool.forall_bool, -Bool.exists_bool]
    rw[eh hx,eh hy,hP]
   ·have hne:uE a b=false:=by
     unfold uE
     rw[decide_eq_false_iff_not]
     intro e
     subst e
     rw[hx] at hy
     exact hxy (Option.some.inj hy)
    simp[hk,hka,hx,hy,hgx,hgy,hxy,hne, -Bool.forall_bool, -Bool.exists_bool]
  ·rintro -hP
   rw[←hl,List.take_length,hl,List.take_length] at hP
   have he:uE a b=true:=decide_eq_true hP
   simp[he, -Bool.forall_bool, -Bool.exists_bool]
 ·have hli: ¬ (a.length:Int)=b.length:=by omega
  have hne:uE a b=false:=by
   unfold uE
   rw[decide_eq_false_iff_not]
   intro e
   exact hl (by rw[e])
  simp[nh,nc,la',lb',hl,hli,hne, -Bool.forall_bool, -Bool.exists_bool]
abbrev wc:Spc:=cz a0 (fun _=> True) (enc (X:=Bool)) fun _ y=> y=true
theorem IB (h1:S fb=Kr) (h2:S de=Ks) (h3:S ku=GK):aK mM mp S a0 (fun _=> True) (enc (X:=Bool)) fun _ y=> y=true:=by
 rintro⟨⟩ -
 have p1:FO (exC,⟨2,⟨#[]⟩,⟨#[]⟩,⟨#[111,46,42]⟩,⟨#[]⟩,false, []⟩):=Km (x:=Ny) (by decide) (by decide) Wq
 have p2:FO (exC,⟨8,⟨#[]⟩,⟨#[]⟩,⟨#[]⟩,⟨#[]⟩,false, [⟨4,⟨#[119,111,114,100]⟩,⟨#[119,111,114,100]⟩,⟨#[]⟩,⟨#[97]⟩,false, []⟩,⟨2,⟨#[112,111,115]⟩,⟨#[]⟩,⟨#[78]⟩,⟨#[]⟩,false, []⟩]⟩):=Km (x:=Nx) (by decide) (by decide) Wp
 have e1:Gn exC ⟨2,⟨#[]⟩,⟨#[]⟩,⟨#[111,46,42]⟩,⟨#[]⟩,false, []⟩= [1]:=VZ
 have e2:Gn exC ⟨8,⟨#[]⟩,⟨#[]⟩,⟨#[]⟩,⟨#[]⟩,false, [⟨4,⟨#[119,111,114,100]⟩,⟨#[119,111,114,100]⟩,⟨#[]⟩,⟨#[97]⟩,false, []⟩,⟨2,⟨#[112,111,115]⟩,⟨#[]⟩,⟨#[78]⟩,⟨#[]⟩,false, []⟩]⟩= [0,1,2]:=VY
 simp[mM,mp,h1,h2,h3,p1,p2,e1,e2,uE, -Bool.forall_bool, -Bool.exists_bool]
end Go.Gv

namespace Go.Gv
open Go.Proofs
open Cod (enc dec)
variable {S S0:Nat→Spc}
def lbs2:List B:= [⟨#[120]⟩,⟨#[121]⟩]
abbrev yN:Spc:=cz a0 (fun _=> True) (enc (X:=List B)) fun _ y=> y=lbs2
theorem yk:aK lL lz S a0 (fun _=> True) (enc (X:=List B)) fun _ y=> y=lbs2:=by
 rintro⟨⟩ -
 simp[lL,lz,lbs2, -Bool.forall_bool, -Bool.exists_bool]
 exact dK _ (.same _) rfl
def OkCorp (c:Corpus):Prop:=c.attrs=fW∧1≤c.toks.length∧c.toks.length≤4096∧ ∀r∈c.toks,vF r
theorem OkCorp.sz {c:Corpus} (h:OkCorp c):N3 c:=by
 obtain⟨h1,h2,h3,h4⟩:=h
 refine⟨by omega,fun r hr=> ?_,by rw[h1];decide⟩
 obtain⟨w,t,f,_,_,_,rfl⟩:=h4 r hr
 simp
theorem Fw: ∀ {l:List rR} {s e:Int},sK s l e→s≤e
 | [],s,e,h=> by have h:s=e:=h;omega
 | a::l,s,e,h=> by have:=Fw h.2.2;have:=h.1;have:=h.2.1;omega
theorem O4 {c:Corpus} (h:FT c) (hk:DK c):OkCorp c:=by
 obtain⟨h1,h2,h3,_⟩:=h
 refine⟨hk.1,?_,h3,hk.2⟩
 cases hl:c.texts with
 | nil=> exact absurd hl h2
 | cons a l=>
   rw[hl] at h1
   have:=Fw h1.2.2
   have:=h1.1
   have:=h1.2.1
   omega
end Go.Gv

namespace Go.Gv
def qdl:B:=⟨#[115]⟩
def SB:B:=⟨#[110,112]⟩
def qdk:B:=⟨#[116]⟩
def Types:List B:= [qdl,SB,qdk]
end Go.Gv

namespace Go.Gv
end Go.Gv

namespace Go.Gv
open Cod (enc dec)
structure rU where
 op:Int
 a:B
 b:B
 name:B
 arg:B
 val:B
 fold:Bool
 mn:Int
 mx:Int
 args:List B
 kids:List rU
mutual
def Dr:rU→D
 | .mk p0 p1 p2 p3 p4 p5 p6 p7 p8 p9 ks=> .agg [enc p0,enc p1,enc p2,enc p3,enc p4,enc p5,enc p6,enc p7,enc p8,enc p9, .list 11 (rF ks)]
def rF:List rU→List D
 | []=> []
 | k::ks=> Dr k::rF ks
end
mutual
def Jz:D→Option rU
 | .agg [x0,x1,x2,x3,x4,x5,x6,x7,x8,x9,x10]=> (dec x0).bind fun p0=> (dec x1).bind fun p1=> (dec x2).bind fun p2=> (dec x3).bind fun p3=> (dec x4).bind fun p4=> (dec x5).bind fun p5=> (dec x6).bind fun p6=> (dec x7).bind fun p7=> (dec x8).bind fun p8=> (dec x9).bind fun p9=> (BX x10).bind fun ks=> some (.mk p0 p1 p2 p3 p4 p5 p6 p7 p8 p9 ks)
 | _=> none
def BX:D→Option (List rU)
 | .list n es=> if n=11 then w9 es else none
 | .v (.slice none 0 0)=> some []
 | _=> none
def w9:List D→Option (List rU)
 | []=> some []
 | d::ds=> (Jz d).bind fun x=> (w9 ds).bind fun xs=> some (x::xs)
end
theorem BR: ∀l:List rU,rF l=l.map Dr
 | []=> rfl
 | _::l=> by rw[rF,BR l];rfl
theorem H6: ∀c:rU,(Dr c).kn=true
 | .mk .. => rfl
theorem Fg: ∀c:rU,(Dr c).cells.length=11
 | .mk .. => rfl
mutual
theorem Fs: ∀c:rU,Jz (Dr c)=some c
 | .mk p0 p1 p2 p3 p4 p5 p6 p7 p8 p9 ks=> by
   have h:BX (.list 11 (rF ks))=some ks:=by rw[BX,if_pos rfl];exact BW ks
   simp only[Dr,Jz,Cod.dec_enc,Option.bind_some,h]
theorem BW: ∀l:List rU,w9 (rF l)=some l
 | []=> by simp only[rF,w9]
 | c::l=> by simp only[rF,w9,Fs c,BW l,Option.bind_some]
end
mutual
theorem Ic: ∀ (d:D) (c:rU),Jz d=some c→FrzTo di d (Dr c)
 | .agg [x0,x1,x2,x3,x4,x5,x6,x7,x8,x9,x10],c,h=> by
   simp only[Jz,Option.bind_eq_some_iff,Option.some.injEq] at h
   obtain⟨p0,h0,p1,h1,p2,h2,p3,h3,p4,h4,p5,h5,p6,h6,p7,h7,p8,h8,p9,h9,ks,hk,rfl⟩:=h
   rw[Dr]
   exact LeL.agg (.cons (Cod.le _ _ h0) (.cons (Cod.le _ _ h1) (.cons (Cod.le _ _ h2) (.cons (Cod.le _ _ h3) (.cons (Cod.le _ _ h4) (.cons (Cod.le _ _ h5) (.cons (Cod.le _ _ h6) (.cons (Cod.le _ _ h7) (.cons (Cod.le _ _ h8) (.cons (Cod.le _ _ h9) ((.cons (LO x10 ks hk) .nil))))))))))))
theorem LO: ∀ (d:D) (l:List rU),BX d=some l→FrzTo di d (.list 11 (rF l))
 | .list n es,l,h=> by
   simp only[BX] at h
   split at h
   ·rename_i hn
    subst hn
    have hl:=Fq es l h
    refine .list hl.1 (fun e he=> ?_) hl.2
    rw[BR] at he
    obtain⟨x,hx,rfl⟩:=List.mem_map.1 he
    exact⟨H6 x,Fg x⟩
   ·cases h
 | .v (.slice none 0 0),l,h=> by
   simp only[BX,Option.some.injEq] at h
   subst h
   exact .nil _
theorem Fq: ∀ (es:List D) (l:List rU),w9 es=some l→LeL es (rF l)
 | [],l,h=> by
   simp only[w9,Option.some.injEq] at h
   subst h
   exact .nil
 | d::ds,l,h=> by
   simp only[w9,Option.bind_eq_some_iff,Option.some.injEq] at h
   obtain⟨x,h1,xs,h2,rfl⟩:=h
   rw[rF]
   exact .cons (Ic d x h1) (Fq ds xs h2)
end
instance:Cod rU where
 wd:=11
 enc:=Dr
 dec:=Jz
 kn:=H6
 wid:=Fg
 dec_enc:=Fs
 le:=Ic
end Go.Gv

namespace Go.Gv
open Cod (enc dec)
structure qds where
 kind:Int
 text:B
 pos:Int
instance:Cod qds where
 wd:=3
 enc t:= .agg [.v (.int .u8 t.kind),enc t.text,enc t.pos]
 dec | .agg [.v (.int .u8 k),x1,x2]=> (dec x1).bind fun b=> (dec x2).bind fun c=> some ⟨k,b,c⟩ | _=> none
 kn _:=rfl
 wid _:=rfl
 dec_enc f:=by simp only[Cod.dec_enc,Option.bind_some]
 le d x h:=by
  split at h
  ·simp only[Option.bind_eq_some_iff,Option.some.injEq] at h
   obtain⟨b,h1,c,h2,rfl⟩:=h
   exact LeL.agg (.cons (.same _) (.cons (Cod.le _ _ h1) (.cons (Cod.le _ _ h2) .nil)))
  ·cases h
structure Pst where
 l:List qds
 pos:Int
 deep:Int
 e:Int
 fail:Int
def Pst.step (s:Pst):Pst:= { s with pos:=s.pos+1 }
def E0:B:=⟨#[]⟩
section
variable (A:Pst→Option (Pst×DI))
end
end Go.Gv

namespace Go.Gv
end Go.Gv

namespace Go.Gv
open Cod (enc dec)
section
variable (N:Pst→Option (Pst×Cond)) (O:Pst→Option (Pst×Cond))
end
section
variable (A:Pst→Option (Pst×DI)) (O:Pst→Option (Pst×Cond))
end
section
variable (N:Pst→Option (Pst×rU)) (O:Pst→Option (Pst×rU))
end
end Go.Gv

namespace Go.Gv
end Go.Gv

namespace Go.Gv
open Go.Proofs
-- markup_ValidName range i=20 n=19 c=21 i2=28 id=0: live [0:s] changed [] res []
-- r22_Same range i=58 n=57 c=59 i2=73 id=0: live [2:a, 3:b] changed [] res []
end Go.Gv

namespace Go.Gv
open Cod (enc dec)
variable {S S0:Nat→Spc}
end Go.Gv

namespace Go.Gv
open Cod (enc dec)
variable {S S0:Nat→Spc}
end Go.Gv

namespace Go.Gv
end Go.Gv

namespace Go.Gv
open Cod (enc dec)
end Go.Gv

namespace Go.Gv
open Cod (enc dec)
structure On where
 txt:B
 fin:Int
 kind:Int
 text:B
 pos:Int
section
variable {Y Z:Type}
variable {P:Program} {S:Nat→Spc} {f:Nat} {im:List Nat} {cc:CC} {rs:List au} {N:Nat}
end
section
variable {Y Z:Type}
variable {P:Program} {S:Nat→Spc} {f:Nat} {im:List Nat} {cc:CC} {rs:List au} {N:Nat}
end
end Go.Gv

namespace Go.Gv
section
variable (N:On→Option (On×Cond)) (O:On→Option (On×Cond))
end
section
variable (A:On→Bool→Option (On×DI)) (O:On→Option (On×Cond))
end
end Go.Gv

namespace Go.Gv
def J8:B:=⟨#[119,111,114,100]⟩
def J9:B:=⟨#[116,97,103]⟩
def yB:B:=⟨#[102,101,97,116]⟩
def ValsT:List B:= [⟨#[97]⟩,⟨#[98]⟩,⟨#[97,46,42]⟩,⟨#[91,97,98,93]⟩]
def ValsI:List B:= [⟨#[97]⟩,⟨#[98]⟩,⟨#[97,46,42]⟩,⟨#[91,97,98,93]⟩,⟨#[88]⟩,⟨#[]⟩,⟨#[99,63]⟩,⟨#[97,124,98]⟩,⟨#[89]⟩,⟨#[97,124,88]⟩]
def Attr2:List B:= [J8,J9]
def FeatL:List B:= [⟨#[112]⟩,⟨#[113]⟩]
def NumL:List B:= [⟨#[49]⟩,⟨#[50]⟩]
def Tg:B:=⟨#[110]⟩
inductive GA (lb:List B):Cond→Prop
 | val (n v:B) (f:Bool) (h1:n∈Attr2) (h2:v∈ValsI):GA lb ⟨2,n,E0,v,E0,f, []⟩
 | feat (v:B) (h:v∈FeatL):GA lb ⟨3,yB,E0,v,E0,false, []⟩
 | same (n l a:B) (h1:n∈Attr2) (h2:l∈lb) (h3:a∈Attr2):GA lb ⟨4,n,a,E0,l,false, []⟩
 | reg (n:B) (h:n∈Types):GA lb ⟨5,n,E0,E0,E0,false, []⟩
 | regk (n v:B) (h1:n∈Types) (h2:v∈NumL):GA lb ⟨5,n,Tg,v,E0,false, []⟩
inductive GI (lb:List B):Nat→Cond→Prop
 | atom (n:Nat) (c:Cond) (h:GA lb c):GI lb n c
 | not (n:Nat) (k:Cond) (h:GI lb n k):GI lb (n+1) ⟨6,E0,E0,E0,E0,false, [k]⟩
 | two (n:Nat) (op:Int) (a b:Cond) (ho:op=7∨op=8) (h1:GI lb n a) (h2:GI lb n b):GI lb (n+1) ⟨op,E0,E0,E0,E0,false, [a,b]⟩
inductive GC (lb:List B) (n:Nat):Cond→Prop
 | any:GC lb n ⟨1,E0,E0,E0,E0,false, []⟩
 | top (v:B) (f:Bool) (h:v∈ValsT):GC lb n ⟨2,E0,E0,v,E0,f, []⟩
 | inner (c:Cond) (h:GI lb n c):GC lb n c
theorem HW {lb:List B} {c:Cond} (h:GA lb c):c.kids= []:=by cases h <;> rfl
def Pe (l:List B) (x:B):Bool:=l.any fun z=> decide (z=x)
theorem EX (l:List B) (x:B):Pe l x=true↔x∈l:=by
 unfold Pe
 rw[List.any_eq_true]
 exact⟨fun⟨z,h1,h2⟩=> by rw[decide_eq_true_eq] at h2;rwa [←h2],fun h=> ⟨x,h,decide_eq_true rfl⟩⟩
instance decMem (l:List B) (x:B):Decidable (x∈l):=if h:Pe l x=true then .isTrue ((EX l x).1 h) else .isFalse fun hx=> h ((EX l x).2 hx)
end Go.Gv

namespace Go.Gv
open Go.Proofs
theorem Mw: ∀w∈FM,w∈wordsA:=by decide
theorem OH: ∀w∈Me,w∈wordsA:=by decide
theorem Np: ∀w∈B5,w∈wordsA:=by decide
theorem MG: ∀w∈ValsI,w∈valsA:=by decide
theorem LH:gj∈wordsA:=by decide
theorem N0 {toks:List (List B)} (h: ∀r∈toks,vF r) (i k:Int):mV toks i k∈wordsA:=by
 unfold mV
 split
 ·exact LH
 ·split
  ·rename_i r hr
   obtain⟨w,t,f,hw,ht,hf,rfl⟩:=h r (List.mem_of_getElem? hr)
   split
   ·rename_i s hs
    have hm:=List.mem_of_getElem? hs
    simp only[List.mem_cons,List.not_mem_nil,or_false] at hm
    rcases hm with rfl | rfl | rfl
    ·exact Mw _ hw
    ·exact OH _ ht
    ·exact Np _ hf
   ·exact LH
  ·exact LH
theorem JF:jl fW yB=2:=by decide
theorem JX {toks:List (List B)} (h: ∀r∈toks,vF r) {i:Int} (h0:0≤i) (h1:i < toks.length): ∃f∈B5,mV toks i 2=f:=by
 obtain⟨j,rfl⟩: ∃j:Nat,i=(j:Int):=⟨i.toNat,by omega⟩
 obtain⟨r,hr⟩: ∃r,toks[j]?=some r:=⟨toks[j]'(by omega),List.getElem?_eq_getElem _⟩
 obtain⟨w,t,f,hw,ht,hf,rfl⟩:=h r (List.mem_of_getElem? hr)
 refine⟨f,hf,?_⟩
 unfold mV
 rw[if_neg (by omega),show((j:Int)).toNat=j from rfl,hr]
 rfl
structure Iu (E:Bg):Prop where
 c:OkCorp E.c
 t0:0≤E.tok
 t1:E.tok < E.c.toks.length
 l:E.bd.length=E.lb.length
theorem RP {E:Bg} (hE:Iu E) {n:Nat} {x:Cond} (h:GA E.lb x): ∃y,jg E (n+1) x=some y:=by
 cases h with
 | val nm v f h1 h2=>
   obtain⟨y,hy⟩:=zx (MG v h2) (N0 hE.c.2.2.2 E.tok (pD E.c.attrs nm)) f
   refine⟨y,?_⟩
   unfold jg
   rw[if_neg (show ¬ (2:Int)=1 by decide),if_pos rfl]
   exact hy
 | feat v h=>
   obtain⟨f,hf,e⟩:=JX hE.c.2.2.2 hE.t0 hE.t1
   have hv:v=⟨#[112]⟩∨v=⟨#[113]⟩:=by simpa [FeatL] using h
   have hfs: (featS.any fun z=> decide (z=f))=true:=List.any_eq_true.2 ⟨f,hf,decide_eq_true rfl⟩
   refine⟨featS.any (fun _=> false) || f.data.toList.any fun c=> decide (v.data.toList= [c]),?_⟩
   unfold jg
   rw[if_neg (show ¬ (3:Int)=1 by decide),if_neg (show ¬ (3:Int)=2 by decide),if_pos rfl]
   simp only[hE.c.1,JF,e]
   unfold Dj
   rw[if_pos ⟨hfs,hv⟩]
   simp
 | same nm l a h1 h2 h3=>
   obtain⟨k,hk⟩: ∃k:Nat,kq E.lb (fun z=> decide (z=l))=(k:Int):=by
    rcases zV (fun z=> decide (z=l)) E.lb with⟨e,h⟩ | ⟨k,_,e,_⟩
    ·have:=h l h2;simp at this
    ·exact⟨k,e⟩
   have hr:=zU (fun z=> decide (z=l)) E.lb
   obtain⟨o,ho⟩: ∃o,E.bd[k]?=some o:=⟨E.bd[k]'(by have:=hE.l;omega),List.getElem?_eq_getElem _⟩
   refine⟨decide (0≤o) && decide (mV E.c.toks E.tok (jl E.c.attrs nm)=mV E.c.toks o (jl E.c.attrs a)),?_⟩
   unfold jg
   rw[if_neg (show ¬ (4:Int)=1 by decide),if_neg (show ¬ (4:Int)=2 by decide),if_neg (show ¬ (4:Int)=3 by decide),if_pos rfl]
   simp only[hk]
   rw[if_neg (by omega),show((k:Int)).toNat=k from rfl,ho]
 | reg nm h=> exact⟨_,by unfold jg;rw[if_neg (show ¬ (5:Int)=1 by decide),if_neg (show ¬ (5:Int)=2 by decide),if_neg (show ¬ (5:Int)=3 by decide),if_neg (show ¬ (5:Int)=4 by decide),if_pos rfl]⟩
 | regk nm v h1 h2=> exact⟨_,by unfold jg;rw[if_neg (show ¬ (5:Int)=1 by decide),if_neg (show ¬ (5:Int)=2 by decide),if_neg (show ¬ (5:Int)=3 by decide),if_neg (show ¬ (5:Int)=4 by decide),if_pos rfl]⟩
theorem nP {X:Type} {p q:X→Bool} : ∀ {l:List X},(∀x∈l,p x=q x)→l.any p=l.any q
 | [],_=> rfl
 | x::l,h=> by rw[List.any_cons,List.any_cons,h x (by simp),nP fun y hy=> h y (by simp[hy])]
theorem GZ {E:Bg} {n:Nat} {k:Cond} {y:Bool} (h:jg E n k=some y):jg E (n+1) ⟨6,E0,E0,E0,E0,false, [k]⟩=some (!y):=by
 unfold jg
 rw[if_neg (show ¬ (6:Int)=1 by decide),if_neg (show ¬ (6:Int)=2 by decide),if_neg (show ¬ (6:Int)=3 by decide),if_neg (show ¬ (6:Int)=4 by decide),if_neg (show ¬ (6:Int)=5 by decide),if_pos rfl]
 simp only[h]
 rfl
theorem G0 {E:Bg} {n:Nat} {a b:Cond} {p q:Bool} (h1:jg E n a=some p) (h2:jg E n b=some q):jg E (n+1) ⟨7,E0,E0,E0,E0,false, [a,b]⟩=some (p && q):=by
 unfold jg
 rw[if_neg (show ¬ (7:Int)=1 by decide),if_neg (show ¬ (7:Int)=2 by decide),if_neg (show ¬ (7:Int)=3 by decide),if_neg (show ¬ (7:Int)=4 by decide),if_neg (show ¬ (7:Int)=5 by decide),if_neg (show ¬ (7:Int)=6 by decide),if_pos (by simp[h1,h2]),if_pos rfl]
 simp[h1,h2]
theorem Lf {E:Bg} {n:Nat} {a b:Cond} {p q:Bool} (h1:jg E n a=some p) (h2:jg E n b=some q):jg E (n+1) ⟨8,E0,E0,E0,E0,false, [a,b]⟩=some (p || q):=by
 unfold jg
 rw[if_neg (show ¬ (8:Int)=1 by decide),if_neg (show ¬ (8:Int)=2 by decide),if_neg (show ¬ (8:Int)=3 by decide),if_neg (show ¬ (8:Int)=4 by decide),if_neg (show ¬ (8:Int)=5 by decide),if_neg (show ¬ (8:Int)=6 by decide),if_pos (by simp[h1,h2]),if_neg (show ¬ (8:Int)=7 by decide)]
 simp[h1,h2]
theorem EW {E:Bg} : ∀ {n:Nat} {x:Cond} {y:Bool},jg E n x=some y→jg E (n+1) x=some y
 | 0,_,_,h=> by cases h
 | n+1,x,y,h=> by
   have ih: ∀k z,jg E n k=some z→jg E (n+1) k=some z:=fun k z=> EW
   rw[jg] at h
   rw[jg]
   dsimp only at h ⊢
   by_cases e1:x.op=1
   ·rw[if_pos e1] at h ⊢;exact h
   rw[if_neg e1] at h ⊢
   by_cases e2:x.op=2
   ·rw[if_pos e2] at h ⊢;exact h
   rw[if_neg e2] at h ⊢
   by_cases e3:x.op=3
   ·rw[if_pos e3] at h ⊢;exact h
   rw[if_neg e3] at h ⊢
   by_cases e4:x.op=4
   ·rw[if_pos e4] at h ⊢;exact h
   rw[if_neg e4] at h ⊢
   by_cases e5:x.op=5
   ·rw[if_pos e5] at h ⊢;exact h
   rw[if_neg e5] at h ⊢
   by_cases e6:x.op=6
   ·rw[if_pos e6] at h ⊢
    cases hk:x.kids with
    | nil=> rw[hk] at h;cases h
    | cons k ks=>
      rw[hk] at h
      obtain⟨b,hb,rfl⟩:=Option.map_eq_some_iff.1 h
      show(jg E (n+1) k).map not=_
      rw[ih _ _ hb]
      rfl
   rw[if_neg e6] at h ⊢
   split at h
   ·rename_i hall
    have hsame: ∀k∈x.kids,jg E (n+1) k=jg E n k:=fun k hk=> by
     obtain⟨z,hz⟩:=Option.isSome_iff_exists.1 (List.all_eq_true.1 hall k hk)
     rw[ih _ _ hz,hz]
    have hall2: (x.kids.all fun k=> (jg E (n+1) k).isSome)=true:=List.all_eq_true.2 fun k hk=> by rw[hsame k hk];exact List.all_eq_true.1 hall k hk
    have a1: (x.kids.any fun k=> !((jg E (n+1) k).getD false))=x.kids.any fun k=> !((jg E n k).getD false):=nP fun k hk=> by rw[hsame k hk]
    have a2: (x.kids.any fun k=> (jg E (n+1) k).getD false)=x.kids.any fun k=> (jg E n k).getD false:=nP fun k hk=> by rw[hsame k hk]
    rw[if_pos hall2,a1,a2]
    exact h
   ·cases h
theorem HS {E:Bg} (hE:Iu E): ∀ {n m:Nat} {x:Cond},GI E.lb n x→n < m→ ∃y,jg E m x=some y
 | _,m+1,_, .atom n c h,_=> RP hE h
 | _,m+1,_, .not n k h,hm=> by
   obtain⟨y,hy⟩:=HS (m:=m) hE h (by omega)
   exact⟨_,GZ hy⟩
 | _,m+1,_, .two n op a b ho h1 h2,hm=> by
   obtain⟨p,hp⟩:=HS (m:=m) hE h1 (by omega)
   obtain⟨q,hq⟩:=HS (m:=m) hE h2 (by omega)
   rcases ho with rfl | rfl
   ·exact⟨_,G0 hp hq⟩
   ·exact⟨_,Lf hp hq⟩
theorem Oh {E:Bg} (hE:Iu E) {n m:Nat} {x:Cond} (h:GC E.lb n x) (hm:n < m): ∃y,jg E m x=some y:=by
 obtain⟨m,rfl⟩: ∃k,m=k+1:=⟨m -1,by omega⟩
 cases h with
 | any=> exact⟨true,by unfold jg;rw[if_pos rfl]⟩
 | top v f h=>
   have hv:v∈valsA:=(by decide: ∀w∈ValsT,w∈valsA) v h
   obtain⟨y,hy⟩:=zx hv (N0 hE.c.2.2.2 E.tok (pD E.c.attrs E0)) f
   refine⟨y,?_⟩
   unfold jg
   rw[if_neg (show ¬ (2:Int)=1 by decide),if_pos rfl]
   exact hy
 | inner c h=> exact HS hE h hm
def QR:Bool:=Attr2.all fun nm=> ValsI.all fun v=> j6 fW [] ⟨2,nm,E0,v,E0,false, []⟩ && j6 fW [] ⟨2,nm,E0,v,E0,true, []⟩
theorem OA:QR=true:=by kernel_rfl
def QW:Bool:=ValsT.all fun v=> j6 fW [] ⟨2,E0,E0,v,E0,false, []⟩ && j6 fW [] ⟨2,E0,E0,v,E0,true, []⟩
theorem OF:QW=true:=by kernel_rfl
def Pg:Bool:=FeatL.all fun v=> j6 fW [] ⟨3,yB,E0,v,E0,false, []⟩
theorem Nw:Pg=true:=by kernel_rfl
def Rf:Bool:=Types.all fun n=> j6 fW [] ⟨5,n,E0,E0,E0,false, []⟩ && NumL.all fun v=> j6 fW [] ⟨5,n,Tg,v,E0,false, []⟩
theorem KB:Rf=true:=by kernel_rfl
def Wv:Bool:=Attr2.all fun n=> decide (0≤jl fW n)
theorem Oe:Wv=true:=by kernel_rfl
theorem EF {lb:List B} {nm v:B} {f:Bool} :j6 fW lb ⟨2,nm,E0,v,E0,f, []⟩=j6 fW [] ⟨2,nm,E0,v,E0,f, []⟩:=rfl
theorem I0 {lb:List B} {v:B} :j6 fW lb ⟨3,yB,E0,v,E0,false, []⟩=j6 fW [] ⟨3,yB,E0,v,E0,false, []⟩:=rfl
theorem EG {lb:List B} {n a v:B} :j6 fW lb ⟨5,n,a,v,E0,false, []⟩=j6 fW [] ⟨5,n,a,v,E0,false, []⟩:=rfl
theorem M3 {lb:List B} {x:Cond} (h:GA lb x):j6 fW lb x=true:=by
 cases h with
 | val nm v f h1 h2=>
   rw[EF]
   have h:=List.all_eq_true.1 (List.all_eq_true.1 OA nm h1) v h2
   simp only[Bool.and_eq_true] at h
   cases f
   ·exact h.1
   ·exact h.2
 | feat v h=>
   rw[I0]
   exact List.all_eq_true.1 Nw v h
 | same nm l a h1 h2 h3=>
   have e1:=List.all_eq_true.1 Oe nm h1
   have e2:=List.all_eq_true.1 Oe a h3
   have e3: (lb.any fun z=> decide (z=l))=true:=List.any_eq_true.2 ⟨l,h2,decide_eq_true rfl⟩
   have s1:OQ ⟨4,nm,a,E0,l,false, []⟩=true:=by
    unfold OQ
    rw[if_neg (show ¬ (4:Int)=1 by decide),if_neg (show ¬ (4:Int)=2 by decide),if_neg (show ¬ (4:Int)=3 by decide),if_pos rfl]
    rfl
   have s2:Of fW ⟨4,nm,a,E0,l,false, []⟩=true:=by
    unfold Of
    rw[if_neg (show ¬ (4:Int)=2 by decide),if_neg (show ¬ (4:Int)=3 by decide),if_pos rfl]
    exact decide_eq_true ⟨of_decide_eq_true e1,of_decide_eq_true e2⟩
   have s3:UZ fW lb ⟨4,nm,a,E0,l,false, []⟩=true:=by
    unfold UZ
    rw[if_neg (show ¬ (4:Int)=2 by decide),if_neg (show ¬ (4:Int)=3 by decide),if_pos rfl]
    exact e3
   unfold j6
   rw[s1,s2,s3]
   rfl
 | reg nm h=>
   rw[EG]
   have h:=List.all_eq_true.1 KB nm h
   simp only[Bool.and_eq_true] at h
   exact h.1
 | regk nm v h1 h2=>
   rw[EG]
   have h:=List.all_eq_true.1 KB nm h1
   simp only[Bool.and_eq_true] at h
   exact List.all_eq_true.1 h.2 v h2
theorem tn {a:List Attr} {lb:List B} {m:Nat} {x:Cond} (h:j6 a lb x=true) (hk:x.kids= []):lR a lb (m+1) x=true:=by
 show(j6 a lb x && x.kids.all (lR a lb m))=true
 rw[h,hk];rfl
theorem BB {lb:List B} {m:Nat} {k:Cond} (h:lR fW lb m k=true):lR fW lb (m+1) ⟨6,E0,E0,E0,E0,false, [k]⟩=true:=by
 have e:j6 fW lb ⟨6,E0,E0,E0,E0,false, [k]⟩=true:=rfl
 show(j6 fW lb ⟨6,E0,E0,E0,E0,false, [k]⟩ && [k].all (lR fW lb m))=true
 rw[e]
 simp[h]
theorem wq {lb:List B} {m:Nat} {op:Int} {a b:Cond} (ho:op=7∨op=8) (h1:lR fW lb m a=true) (h2:lR fW lb m b=true):lR fW lb (m+1) ⟨op,E0,E0,E0,E0,false, [a,b]⟩=true:=by
 have e:j6 fW lb ⟨op,E0,E0,E0,E0,false, [a,b]⟩=true:=by rcases ho with rfl | rfl <;> rfl
 show(j6 fW lb ⟨op,E0,E0,E0,E0,false, [a,b]⟩ && [a,b].all (lR fW lb m))=true
 rw[e]
 simp[h1,h2]
theorem uW {lb:List B} : ∀ {n m:Nat} {x:Cond},GI lb n x→n < m→lR fW lb m x=true
 | _,m+1,_, .atom n c h,_=> tn (M3 h) (HW h)
 | _,m+1,_, .not n k h,hm=> BB (uW h (by omega))
 | _,m+1,_, .two n op a b ho h1 h2,hm=> wq ho (uW h1 (by omega)) (uW h2 (by omega))
theorem HM {k:Cond} {op:Int} :f9 ⟨op,E0,E0,E0,E0,false, [k]⟩=f9 k+1:=by rw[f9,ep,ep]
theorem CY {a b:Cond} {op:Int} :f9 ⟨op,E0,E0,E0,E0,false, [a,b]⟩=f9 a+f9 b+1:=by rw[f9,ep,ep,ep];omega
theorem H8 {k:Cond} {op:Int} :dH ⟨op,E0,E0,E0,E0,false, [k]⟩=dH k+1:=by rw[dH,hZ,hZ];omega
theorem Du {a b:Cond} {op:Int} :dH ⟨op,E0,E0,E0,E0,false, [a,b]⟩=max (dH a) (dH b) +1:=by rw[dH,hZ,hZ,hZ];omega
theorem zE {x:Cond} (h:x.kids= []):f9 x=1∧dH x=1:=by
 rw[pq,yb,h]
 exact⟨rfl,rfl⟩
theorem Dm {lb:List B} : ∀ {n:Nat} {x:Cond},GI lb n x→f9 x+1≤2^ (n+1)∧dH x≤n+1
 | _,_, .atom n c h=> by
   have:=zE (HW h)
   have h2:2^1≤2^ (n+1):=Nat.pow_le_pow_right (by decide) (by omega)
   omega
 | _,_, .not n k h=> by
   have:=Dm h
   rw[HM,H8,Nat.pow_succ]
   omega
 | _,_, .two n op a b ho h1 h2=> by
   have:=Dm h1
   have:=Dm h2
   rw[CY,Du,Nat.pow_succ]
   omega
theorem G9 {lb:List B} {n:Nat} {x:Cond} (h:GC lb n x):f9 x+1≤2^ (n+1)∧dH x≤n+1:=by
 have h2:2^1≤2^ (n+1):=Nat.pow_le_pow_right (by decide) (by omega)
 cases h with
 | any=> have:=zE (x:=⟨1,E0,E0,E0,E0,false, []⟩) rfl;omega
 | top v f h=> have:=zE (x:=⟨2,E0,E0,v,E0,f, []⟩) rfl;omega
 | inner c h=> exact Dm h
theorem oc {lb:List B} {n m:Nat} {x:Cond} (h:GC lb n x) (hm:n < m):lR fW lb m x=true:=by
 obtain⟨m,rfl⟩: ∃k,m=k+1:=⟨m -1,by omega⟩
 cases h with
 | any=> exact tn rfl rfl
 | top v f h=>
   refine tn ?_ rfl
   have h:=List.all_eq_true.1 OF v h
   simp only[Bool.and_eq_true] at h
   rw[EF]
   cases f
   ·exact h.1
   ·exact h.2
 | inner c h=> exact uW h hm
theorem CX {a:List Attr} {lb:List B} {x:Cond} (h1:f9 x≤60) (h2:dH x≤20) (h3:lR a lb 20 x=true):KO a lb x=true:=by
 unfold KO
 rw[decide_eq_true ⟨h1,h2⟩,h3]
 rfl
theorem KN {lb:List B} {n:Nat} {x:Cond} (h:GC lb n x) (hn:n≤4):KO fW lb x=true:=by
 obtain⟨h1,h2⟩:=G9 h
 have h3:2^ (n+1)≤2^5:=Nat.pow_le_pow_right (by decide) (by omega)
 exact CX (by omega) (by omega) (oc h (by omega))
end Go.Gv
