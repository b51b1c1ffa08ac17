/- A part of the framework and of the walks: W146 L1 C57 W150. -/
import Derived.Test.YtphdikcommfnhaaGreatDoorGa23
import Derived.Test.YtphdikcommfnhaaGreatDoorGa19
import Derived.Test.YtphdikcommfnhaaGreatDoorGa22
import Derived.Test.YtphdikcommfnhaaGreatDoorGa21
import Derived.Test.YtphdikcommfnhaaGreatDoorGa20
set_option linter.unusedSimpArgs false
set_option linter.unusedVariables false
set_option maxRecDepth 100000

namespace Go.Gv
open Cod (enc dec)
variable {S S0:Nat->Spc}
def je (c:Int):B:=⟨#[c.toNat.toUInt8]⟩
abbrev s_cpFold1:Spc:=cC (a1 B) (fun s=> ∃c:Int,0<=c/\c < 128/\s=je c) (enc (X:=B)) fun s y=> ∀c:Int,0<=c->c < 128->s=je c->y=je (low c)
theorem JC {c:Int} (h0:0<=c) (h1:c < 128):Utf8.encode c=je c:=by
 unfold Utf8.encode je
 have e:c.toNat < 128:=by omega
 have h:Utf8.valid c=true:=by
  unfold Utf8.valid
  have:c < 55296:=by omega
  simp[h0,this]
 simp[e,h]
theorem Je {c:Int} (h0:0<=c) (h1:c < 128):0<=low c/\low c < 128:=by unfold low;split <;> omega
theorem Ot {c d:Int} (hc:0<=c) (hc':c < 128) (hd:0<=d) (hd':d < 128) (h:je c=je d):c=d:=by
 have:c.toNat.toUInt8=d.toNat.toUInt8:=by
  have:=congrArg (fun b:B=> b.data.toList.head?) h
  simpa [je] using this
 have:=congrArg UInt8.toNat this
 have e1:c.toNat.toUInt8.toNat=c.toNat % 256:=UInt8.toNat_ofNat' ..
 have e2:d.toNat.toUInt8.toNat=d.toNat % 256:=UInt8.toNat_ofNat' ..
 omega
theorem YH {c d:Int} (hc:0<=c) (hc':c < 128) (hd:0<=d) (hd':d < 128): (je c=je d)=(c=d):=propext ⟨Ot hc hc' hd hd',fun h=> by rw[h]⟩
theorem Ml (h1:S eL=s_cpFold1):aV lY lk S (a1 I32) (fun c=> 0<=c.val/\c.val < 128) (enc (X:=List I32)) fun c y=> y=Mp true c:=by
 rintro⟨c⟩ ⟨c0,c1⟩
 have c0:0<=c:=c0
 have c1:c < 128:=c1
 obtain⟨l0,l1⟩:=Je c0 c1
 have hP: ∃d:Int,0<=d/\d < 128/\je c=je d:=⟨c,c0,c1,rfl⟩
 simp[lY,lk,h1,JC c0 c1,hP, -Bool.forall_bool, -Bool.exists_bool]
 intro y hy b
 obtain rfl:=hy c c0 c1 rfl
 clear hy
 obtain⟨r,hr⟩: ∃r,r=low c:=⟨_,rfl⟩
 rw[<-hr] at l0 l1 ⊢
 have hsz: (je r).size=1:=rfl
 have hdec:Utf8.decode (je r) 0=(r.toNat,1):=by
  have h0:0 < (je r).size:=by rw[hsz];omega
  have e1: ((je r)[0]'h0).toNat=r.toNat % 256:=UInt8.toNat_ofNat' ..
  have e2: ((je r)[0]'h0).toNat=r.toNat:=by omega
  rw[Go.decode_ascii (je r) 0 h0 (by omega),e2]
 refine aY (X:=Nat×Value×List I32) [4,13] [] (fun z=> z.1=0/\z.2.1= .slice none 0 0/\z.2.2= []\/z.1=1/\z.2.2=Fk ⟨c⟩) (fun z=> [(3, .own 40 z.2.1)]) (fun z=> [(13, .iter b (je r) z.1),(40, .row z.2.1 o5 1 (z.2.2.map enc))]) (fun z=> 1 -z.1) (0, .slice none 0 0, []) (.inl ⟨rfl,rfl,rfl⟩) (by simp) (by simp[isNilRow]) ?_
 rintro⟨pos,v,l⟩ hz
 simp only at hz
 rcases hz with⟨rfl,rfl,rfl⟩ | ⟨rfl,rfl⟩
 ·have hrn: ((r.toNat:Nat):Int)=r:=by omega
  have i1:InR .i32 (r -32):=by simp only[InR];omega
  have i2:InR .i32 (r -80):=by simp only[InR];omega
  simp[hsz,hdec,hrn,i1,i2, -Bool.forall_bool, -Bool.exists_bool]
  have hfo: ∀l:List I32,l=([⟨r⟩,⟨r -32⟩,⟨r -80⟩]:List I32).filter (fun v=> decide (0<=v.val/\low v.val=r))->l=Fk ⟨c⟩:=fun l hl=> by
   rw[hl,Fk]
   simp only[<-hr]
  refine aA (X:=Value×List I32) [4,13,22] [13] 3 (fun k z=> z.2=(([⟨r⟩,⟨r -32⟩,⟨r -80⟩]:List I32).take k).filter (fun v=> decide (0<=v.val/\low v.val=r))/\z.2.length<=k) (fun z=> [(3, .own 40 z.1)]) (fun z=> [(40, .row z.1 o5 1 (z.2.map enc))]) (.slice none 0 0, []) (by simp) (by simp) (by omega) (by simp) (by simp) ⟨rfl,by simp⟩ (by simp) (by simp[isNilRow]) ?_ ?_
  ·rintro k ⟨v,l⟩ hk ⟨hl,hlen⟩
   simp only at hl hlen
   obtain⟨e,he,hee⟩: ∃e:Int,e < 128/\([⟨r⟩,⟨r -32⟩,⟨r -80⟩]:List I32)[k]?=some ⟨e⟩/\([.v (.int .i32 r), .v (.int .i32 (r -32)), .v (.int .i32 (r -80))]:List D)[k]?=some (.v (.int .i32 e)):=by
    rcases(by omega:k=0\/k=1\/k=2) with rfl | rfl | rfl
    ·exact⟨r,by omega,rfl,rfl⟩
    ·exact⟨r -32,by omega,rfl,rfl⟩
    ·exact⟨r -80,by omega,rfl,rfl⟩
   obtain⟨he1,he2⟩:=hee
   have he3: ∀h,([.v (.int .i32 r), .v (.int .i32 (r -32)), .v (.int .i32 (r -80))]:List D)[k]'h= .v (.int .i32 e):=fun h=> by
    obtain⟨_,h2⟩:=List.getElem?_eq_some_iff.1 he2
    exact h2
   have hki: (k:Int) < 3:=by omega
   have hstep: (([⟨r⟩,⟨r -32⟩,⟨r -80⟩]:List I32).take (k+1)).filter (fun v=> decide (0<=v.val/\low v.val=r))=l++ ([⟨e⟩]:List I32).filter (fun v=> decide (0<=v.val/\low v.val=r)):=by
    rw[List.take_add_one,he1,List.filter_append,<-hl]
    rfl
   by_cases h0:0<=e
   ·obtain⟨q0,q1⟩:=Je h0 he
    have hPe: ∃d:Int,0<=d/\d < 128/\je e=je d:=⟨e,h0,he,rfl⟩
    simp[hk,hki,he2,he3,h0,h1,JC h0 he,hPe, -Bool.forall_bool, -Bool.exists_bool]
    intro y hy
    obtain rfl:=hy e h0 he rfl
    rw[YH q0 q1 l0 l1]
    refine⟨fun hh=> ⟨by omega,by omega,fun v=> ⟨v,l++ [⟨e⟩],⟨?_,by simp;omega⟩,rfl, .inl ⟨rfl,by simp⟩⟩⟩,fun hh=> ⟨v,l,⟨?_,by omega⟩,rfl, .inl ⟨rfl,rfl⟩⟩⟩
    ·simpa [h0,hh] using hstep.symm
    ·simpa [h0,hh] using hstep.symm
   ·simp[hk,hki,he2,he3,h0, -Bool.forall_bool, -Bool.exists_bool]
    refine⟨v,l,⟨?_,by omega⟩,rfl, .inl ⟨rfl,rfl⟩⟩
    simpa [h0] using hstep.symm
  ·rintro⟨v,l⟩ ⟨hl,hlen⟩
   simp only at hl hlen
   have hl:=hfo l hl
   simp[-Bool.forall_bool, -Bool.exists_bool]
   exact⟨1,v,l, .inr ⟨rfl,hl⟩,⟨rfl, .inl rfl, .inl ⟨rfl,rfl⟩⟩,rfl⟩
 ·simp[hsz, -Bool.forall_bool, -Bool.exists_bool]
  exact eR (Fk ⟨c⟩) (xI (l:=Fk ⟨c⟩) o5 rfl) rfl
end Go.Gv

namespace Go.Gv
theorem cU {α:Type} {l:List α} {k:Nat} {a:α} (h:l[k]?=some a):l.take (k+1)=l.take k++ [a]:=by
 rw[List.take_add_one,h];rfl
theorem lX {α:Type} {l:List α} {k:Nat} {a:α} (h:l[k]?=some a):l.drop k=a::l.drop (k+1):=by
 obtain⟨hk,rfl⟩:=List.getElem?_eq_some_iff.1 h
 exact List.drop_eq_getElem_cons hk
theorem xf {α:Type} {l:List α} {k:Nat} {a:α} (h:l[k]?=some a):a∈l:=List.mem_of_getElem? h
theorem Xz {α:Type} {l:List α} {k:Nat} {a:α} (h:l[k]?=some a):k < l.length:=(List.getElem?_eq_some_iff.1 h).1
theorem FU {α:Type} {l:List α} {k:Nat} (h:k < l.length): ∃a,l[k]?=some a:=⟨l[k],List.getElem?_eq_getElem h⟩
def qbv (a b:Ag):Prop:=a.b < b.b\/a.b=b.b/\a.e < b.e
instance (a b:Ag):Decidable (qbv a b):=by unfold qbv;infer_instance
theorem Wb (a:Ag): ¬qbv a a:=by unfold qbv;omega
def SS (l:List Ag):Prop:=l.Pairwise qbv
theorem SS.nil:SS []:=List.Pairwise.nil
def IsNorm (l r:List Ag):Prop:=SS r/\ ∀x,x∈r↔x∈l
theorem IsNorm.nil:IsNorm [] []:=⟨SS.nil,fun _=> Iff.rfl⟩
theorem IsNorm.congr {l l' r:List Ag} (h:IsNorm l r) (hl: ∀x,x∈l↔x∈l'):IsNorm l' r:=⟨h.1,fun x=> (h.2 x).trans (hl x)⟩
theorem RL: ∀ {r l:List Ag},SS r->(∀x∈r,x∈l)->r.length<=l.length
 | [],l,_,_=> Nat.zero_le _
 | x::r,l,h,hl=> by
   have h':=List.pairwise_cons.1 h
   have hx:=hl x (by simp)
   have:=RL (l:=l.erase x) h'.2 fun y hy=> (List.mem_erase_of_ne (fun(e:y=x)=> Wb x (by have:=h'.1 y hy;rwa [e] at this))).2 (hl y (by simp[hy]))
   rw[List.length_erase_of_mem hx] at this
   have:=List.length_pos_of_mem hx
   simp;omega
theorem IsNorm.len {l r:List Ag} (h:IsNorm l r):r.length<=l.length:=RL h.1 fun x hx=> (h.2 x).1 hx
theorem IsNorm.same {l l' r:List Ag} (h:IsNorm l r) (hl: ∀x,x∈l'↔x∈l):IsNorm l' r:=⟨h.1,fun x=> (h.2 x).trans (hl x).symm⟩
def gT {X:Type} :List X->(X->Bool)->Int
 | [],_=> -1
 | x::l,p=> if p x then 0 else if gT l p < 0 then -1 else gT l p+1
theorem kZ {X:Type} {p:X->Bool} : ∀ {l:List X},(∀y∈l,p y=false)->gT l p= -1
 | [],_=> rfl
 | x::l,h=> by
   have:=kZ (l:=l) (fun y hy=> h y (by simp[hy]))
   simp[gT,h x (by simp),this]
theorem qE {X:Type} {p:X->Bool} : ∀ {l:List X} {k:Nat} {x:X},l[k]?=some x->p x=true->(∀y∈l.take k,p y=false)->gT l p=k
 | [],k,x,hx,_,_=> by simp at hx
 | z::l,0,x,hx,hp,_=> by
   simp at hx
   subst hx
   simp[gT,hp]
 | z::l,k+1,x,hx,hp,hb=> by
   have hz:=hb z (by simp)
   have ih:=qE (l:=l) (k:=k) (by simpa using hx) hp (fun y hy=> hb y (by simp[hy]))
   simp[gT,hz,ih]
   omega
theorem Ff {X:Type} (p:X->Bool) (l:List X): (gT l p= -1/\ ∀y∈l,p y=false)\/ ∃k x,gT l p=(k:Nat)/\l[k]?=some x/\p x=true/\ ∀y∈l.take k,p y=false:=by
 induction l with
 | nil=> exact .inl ⟨rfl,by simp⟩
 | cons z l ih=>
   by_cases hz:p z=true
   ·exact .inr ⟨0,z,by simp[gT,hz],by simp,hz,by simp⟩
   ·have hz:p z=false:=by simpa using hz
    rcases ih with⟨h1,h2⟩ | ⟨k,x,h1,h2,h3,h4⟩
    ·refine .inl ⟨by simp[gT,hz,h1],fun y hy=> ?_⟩
     rcases List.mem_cons.1 hy with rfl | hy
     ·exact hz
     ·exact h2 y hy
    ·refine .inr ⟨k+1,x,?_,by simpa using h2,h3,fun y hy=> ?_⟩
     ·simp[gT,hz,h1];omega
     ·rw[List.take_succ_cons] at hy
      rcases List.mem_cons.1 hy with rfl | hy
      ·exact hz
      ·exact h4 y hy
theorem qD {X:Type} (p:X->Bool) (l:List X):decide (0<=gT l p)=l.any p:=by
 rcases Ff p l with⟨h1,h2⟩ | ⟨k,x,h1,h2,h3,h4⟩
 ·have:l.any p=false:=by simpa using h2
  rw[h1,this];rfl
 ·have:l.any p=true:=List.any_eq_true.2 ⟨x,xf h2,h3⟩
  rw[h1,this];simp
theorem SS.filter {l:List Ag} (h:SS l) (p:Ag->Bool):SS (l.filter p):=List.Pairwise.filter p h
theorem IsNorm.filter {l r:List Ag} (h:IsNorm l r) (p:Ag->Bool):IsNorm (l.filter p) (r.filter p):=⟨h.1.filter p,fun x=> by simp[h.2 x]⟩
end Go.Gv

namespace Go.Gv
open Go.Proofs
def dU:CC:=oX [oB 4 (.mv (oN 0))] [0,1] [] (.seq (oX [oA 6 0,oB 7 (.len (oT 6)),oB 8 (.mv (oN 0))] [0,1,7,8] [] (aP 0 8 7 9 1 (oX [oA 10 8,oA 5 10] [0,1,5,7,8] [] (oX [oA 11 1,oA 12 0,oA 13 5,oB 14 (.iaddr 2 (oT 12) (oT 13)),oD 15 2 14,oB 16 (.callv (oT 11) [oT 15])] [0,1,5,7,8,16] [] (.ite (oT 16) (oX [oA 17 5,oA 4 17] [4] [] (.ret))
 (.skip)))) 18)) (.keep [] [] (oX [oB 4 (.mv (oN (-1)))] [4] [] (.ret))))
def dK:List ar:= [.tmp 4]
def nn:List Nat:= []
theorem nj:ay Tryz.prog bU nn dU dK 19:=ak mixed (by kernel_rfl)
def eA:CC:=oX [oB 4 (.mv (.const ob))] [0,1] [] (oX [oA 5 0,oA 6 1,oZ 7 cW [oT 5,oT 6],oB 8 (.cmp .geq (oT 7) (oN 0)),oA 4 8] [4] [] (.ret))
def eu:List ar:= [.tmp 4]
def ox:List Nat:= []
theorem ou:ay Tryz.prog bP ox eA eu 9:=ak mixed (by kernel_rfl)
def fR:CC:=oX [oB 4 (.mv (oN 0))] [0,1] [] (.seq (oX [oA 6 0,oB 7 (.len (oT 6)),oB 8 (.mv (oN 0))] [0,1,7,8] [] (aP 0 8 7 9 1 (oX [oA 10 8,oA 5 10] [0,1,5,7,8] [] (oX [oA 11 1,oA 12 0,oA 13 5,oB 14 (.iaddr 7 (oT 12) (oT 13)),oD 15 7 14,oB 16 (.callv (oT 11) [oT 15])] [0,1,5,7,8,16] [] (.ite (oT 16) (oX [oA 17 5,oA 4 17] [4] [] (.ret)) (.skip)))) 18))
 (.keep [] [] (oX [oB 4 (.mv (oN (-1)))] [4] [] (.ret))))
def fL:List ar:= [.tmp 4]
def q9:List Nat:= []
theorem qY:ay Tryz.prog cW q9 fR fL 19:=ak mixed (by kernel_rfl)
def dV:CC:=oX [oB 4 (.mv (.const ob))] [0,1] [] (oX [oA 5 0,oA 6 1,oZ 7 bC [oT 5,oT 6],oB 8 (.cmp .geq (oT 7) (oN 0)),oA 4 8] [4] [] (.ret))
def dL:List ar:= [.tmp 4]
def np:List Nat:= []
theorem gl:ay Tryz.prog aG np dV dL 9:=ak mixed (by kernel_rfl)
def eW:CC:=oX [oB 4 (.mv (oN 0))] [0,1] [] (.seq (oX [oA 6 0,oB 7 (.len (oT 6)),oB 8 (.mv (oN 0))] [0,1,7,8] [] (aP 0 8 7 9 1 (oX [oA 10 8,oA 5 10] [0,1,5,7,8] [] (oX [oA 11 1,oA 12 0,oA 13 5,oB 14 (.iaddr 4 (oT 12) (oT 13)),oD 15 4 14,oB 16 (.callv (oT 11) [oT 15])] [0,1,5,7,8,16] [] (.ite (oT 16) (oX [oA 17 5,oA 4 17] [4] [] (.ret)) (.skip)))) 18))
 (.keep [] [] (oX [oB 4 (.mv (oN (-1)))] [4] [] (.ret))))
def eO:List ar:= [.tmp 4]
def pF:List Nat:= []
theorem iK:ay Tryz.prog bC pF eW eO 19:=ak mixed (by kernel_rfl)
def gg:CC:=oX [oB 3 (.box Oh true (oT 1)),oB 4 (.mv (.const ob))] [0,3] [] (oX [oA 5 0,oD 6 2 3,oZ 7 ei [oT 5,oT 6],oB 8 (.cmp .geq (oT 7) (oN 0)),oA 4 8] [4] [] (.ret))
def fW:List ar:= [.tmp 4]
def rO:List Nat:= [3]
theorem rK:ay Tryz.prog dc rO gg fW 9:=ak mixed (by kernel_rfl)
def iS:CC:=oX [oB 3 (.box Oh true (oT 1)),oB 4 (.mv (oN 0))] [0,3] [] (.seq (oX [oA 6 0,oB 7 (.len (oT 6)),oB 8 (.mv (oN 0))] [0,3,7,8] [] (aP 0 8 7 9 1 (oX [oA 10 8,oA 5 10] [0,3,5,7,8] [] (.seq (.regd [oD 11 2 3,oA 12 0,oA 13 5,oB 14 (.iaddr 2 (oT 12) (oT 13)),oD 15 2 14] [oB 16 (.eql false true [.str,.str] (oT 11) (oT 15))])
 (.keep [0,3,5,7,8,16] [] (.ite (oT 16) (oX [oA 17 5,oA 4 17] [4] [] (.ret)) (.skip))))) 18)) (.keep [] [] (oX [oB 4 (.mv (oN (-1)))] [4] [] (.ret))))
def iA:List ar:= [.tmp 4]
def uK:List Nat:= [3]
theorem ur:ay Tryz.prog ei uK iS iA 19:=ak mixed (by kernel_rfl)
def gG:CC:=oX [oB 4 (.mv (oN 0))] [0,1] [] (.seq (oX [oA 6 0,oB 7 (.len (oT 6)),oB 8 (.mv (oN 0))] [0,1,7,8] [] (aP 0 8 7 9 1 (oX [oA 10 8,oA 5 10] [0,1,5,7,8] [] (oX [oA 11 1,oA 12 0,oA 13 5,oB 14 (.iaddr 1 (oT 12) (oT 13)),oC 15 1 14,oB 16 (.eql false false [.str] (oT 11) (oT 15))] [0,1,5,7,8,16] [] (.ite (oT 16) (oX [oA 17 5,oA 4 17] [4] [] (.ret))
 (.skip)))) 18)) (.keep [] [] (oX [oB 4 (.mv (oN (-1)))] [4] [] (.ret))))
def gp:List ar:= [.tmp 4]
def sS:List Nat:= []
theorem sC:ay Tryz.prog aF sS gG gp 19:=ak mixed (by kernel_rfl)
def cB:CC:=oX [oB 4 (.mv (.const ob))] [0,1] [] (oX [oA 5 0,oA 6 1,oZ 7 aF [oT 5,oT 6],oB 8 (.cmp .geq (oT 7) (oN 0)),oA 4 8] [4] [] (.ret))
def cy:List ar:= [.tmp 4]
def qn:List Nat:= []
theorem jm:ay Tryz.prog aw qn cB cy 9:=ak mixed (by kernel_rfl)
def iY:CC:=oX [oB 3 (.box cQ true (oT 0)),oB 6 (.mv (oN 0)),oB 7 (.mv (oN 0))] [1,2,3] [] (oX [oA 13 1,oB 14 (.arith .add (oT 13) (oN 1)),oA 1 14] [1,2,3] [] (oX [oA 15 2,oA 8 15] [1,2,3,8] [] (.seq (oX [oE 16 6 3,oC 17 1 16,oB 18 (.len (oT 17)),oB 19 (.mv (oN 0))] [1,2,8,17,18,19] [] (aP 0 19 18 20 1 (oX [oB 21 (.iaddr 7 (oT 17) (oT 19)),oD 22 7 21,
 oB 10 (.alloc cQ [oi,oe,oe,oe,oe,ob,on]),oF 7 10 22] [1,2,8,10,17,18,19] [10] (.seq (oX [oA 23 1,oB 24 (.cmp .gtr (oT 23) (oN 60))] [1,2,8,10,17,18,19,24] [10] (.ite (oT 24) (.exit 0) (.skip))) (.keep [1,2,8,10,17,18,19] [10] (oX [oD 26 7 10,oA 27 1,oA 28 2,oB 29 (.arith .add (oT 28) (oN 1)),oZ 30 bN [oT 26,oT 27,oT 29],oA 25 30,oB 31 (.ext (oT 25) 0),
 oB 32 (.ext (oT 25) 1),oA 11 31,oA 12 32] [2,8,11,12,17,18,19] [] (.reg [oA 33 11,oA 34 8,oA 35 12,oB 36 (.mm true [oT 34,oT 35]),oA 1 33,oA 8 36]))))) 37)) (.keep [1,8] [] (oX [oA 38 1,oA 39 8,oA 6 38,oA 7 39] [6,7] [] (.ret))))))
def iG:List ar:= [.tmp 6, .tmp 7]
def uT:List Nat:= [3]
theorem uB:ay Tryz.prog bN uT iY iG 40:=ak mixed (by kernel_rfl)
def ms:CC:=oX [oB 2 (.box cQ true (oT 0)),oB 4 (.mv (oN 0))] [1,2] [] (.seq (oX [oA 9 1,oD 10 7 2,oB 11 (.callv (oT 9) [oT 10]),oA 5 11] [1,2,5] [] (oX [oA 12 5,oB 13 (.eql true false [.int] (oT 12) (oN 0))] [1,2,5,13] [] (.ite (oT 13) (oX [oA 14 5,oA 4 14] [4] [] (.ret)) (.skip)))) (.keep [1,2] [] (.seq (oX [oE 15 6 2,oC 16 1 15,oB 17 (.len (oT 16)),
 oB 18 (.mv (oN 0))] [1,16,17,18] [] (aP 0 18 17 19 1 (oX [oB 20 (.iaddr 7 (oT 16) (oT 18)),oD 21 7 20,oB 7 (.alloc cQ [oi,oe,oe,oe,oe,ob,on]),oF 7 7 21] [1,7,16,17,18] [7] (oX [oD 22 7 7,oA 23 1,oZ 24 cw [oT 22,oT 23],oA 8 24] [1,8,16,17,18] [] (oX [oA 25 8,oB 26 (.eql true false [.int] (oT 25) (oN 0))] [1,8,16,17,18,26] [] (.ite (oT 26) (oX [oA 27 8,
 oA 4 27] [4] [] (.ret)) (.skip))))) 28)) (.keep [] [] (oX [oB 4 (.mv (oN 0))] [4] [] (.ret))))))
def lI:List ar:= [.tmp 4]
def zK:List Nat:= [2]
theorem zi:ay Tryz.prog cw zK ms lI 29:=ak mixed (by kernel_rfl)
def bJ:CC:=oX [oB 1 (.box cQ true (oT 0)),oB 2 (.mv (.const ob))] [1] [] (oX [oB 3 (.mv (oN 0)),oB 4 (.mv (oN 0))] [1,3,4] [] (oX [oE 6 0 1,oC 7 1 6,oB 8 (.build [oi,oe,oe,oe,oe,ob,on] [(0,1,oT 7)]),oB 5 (.alloc cQ [oi,oe,oe,oe,oe,ob,on]),oF 7 5 8] [1,3,4,5] [5] (.seq (oX [oE 9 0 1,
 oC 10 1 9] [1,3,4,5,10] [5] (.block 0 (.seq (.block 8 (.seq (.block 7 (.seq (.block 6 (.seq (.block 5 (.seq (.block 4 (.seq (.block 3 (.seq (.block 2 (.seq (.block 1 (.seq (.seq (oX [oB 12 (.eql false false [.int] (oT 10) (oN 1)),oA 11 12] [1,3,4,5,10,11] [5] (.ite (oT 11) (.exit 1) (.skip))) (.keep [1,3,4,5,10] [5] (.seq (oX [oB 14 (.eql false false [.int] (oT 10) (oN 2)),
 oA 13 14] [1,3,4,5,10,13] [5] (.ite (oT 13) (.exit 2) (.skip))) (.keep [1,3,4,5,10] [5] (.seq (oX [oB 16 (.eql false false [.int] (oT 10) (oN 3)),oA 15 16] [1,3,4,5,10,15] [5] (.ite (oT 15) (.exit 3) (.skip))) (.keep [1,3,4,5,10] [5] (.seq (oX [oB 18 (.eql false false [.int] (oT 10) (oN 4)),oA 17 18] [1,3,4,5,10,17] [5] (.ite (oT 17) (.exit 4) (.skip))) (.keep [1,3,4,5,10] [5] (.seq (oX [
 oB 20 (.eql false false [.int] (oT 10) (oN 5)),oA 19 20] [1,3,4,5,10,19] [5] (.ite (oT 19) (.exit 5) (.skip))) (.keep [1,5,10] [5] (.seq (oX [oB 22 (.eql false false [.int] (oT 10) (oN 6)),oA 21 22] [1,5,10,21] [5] (.ite (oT 21) (.exit 6) (.skip))) (.keep [1,5,10] [5] (.seq (oX [oB 24 (.eql false false [.int] (oT 10) (oN 7)),oA 23 24] [1,5,10,23] [5] (.ite (oT 23) (.skip) (.reg [
 oB 25 (.eql false false [.int] (oT 10) (oN 8)),oA 23 25]))) (.keep [1,5,23] [5] (.ite (oT 23) (.exit 7) (.skip)))))))))))))))) (.keep [] [] (.exit 8)))) (.keep [1,3,4,5] [5] (.exit 0)))) (.keep [1,3,4,5] [5] (.reg [oE 26 5 1,oC 27 1 26,oE 28 5 5,oF 1 28 27])))) (.keep [1,3,4,5] [5] (.seq (.regd [oE 29 1 1,oC 30 1 29,oE 31 3 1,oC 32 1 31,oE 33 1 5,
 .op none none (.store (some 5) 1 (oT 33) (oT 30))] [oE 34 3 5,.op none none (.store (some 5) 1 (oT 34) (oT 32))]) (.keep [1,3,4,5] [5] (.exit 0)))))) (.keep [1,3,4,5] [5] (.seq (.regd [oE 35 1 1,oC 36 1 35,oE 37 4 1,oC 38 1 37,oE 39 2 1,oC 40 1 39,oE 41 1 5,.op none none (.store (some 5) 1 (oT 41) (oT 36)),oE 42 4 5,.op none none (.store (some 5) 1 (oT 42) (oT 38))] [oE 43 2 5,
 .op none none (.store (some 5) 1 (oT 43) (oT 40))]) (.keep [1,3,4,5] [5] (.exit 0)))))) (.keep [1,3,4,5] [5] (.seq (.seq (.regd [oE 44 1 1,oC 45 1 44,oE 46 2 1,oC 47 1 46,oE 48 3 1,oC 49 1 48,oE 50 1 5,.op none none (.store (some 5) 1 (oT 50) (oT 45)),oE 51 2 5,.op none none (.store (some 5) 1 (oT 51) (oT 47))] [oE 52 3 5,.op none none (.store (some 5) 1 (oT 52) (oT 49))])
 (.keep [1,3,4,5] [5] (oX [oE 53 2 1,oC 54 1 53,oB 55 (.eql false false [.str] (oT 54) (oS ⟨#[]⟩)),oA 56 55,oH 57 56 (.faddr 3 (oT 1)),oH 58 56 (.load false 1 (oT 57)),oH 59 56 (.eql true false [.str] (oT 58) (oS ⟨#[]⟩)),oB 60 (.pick (oT 56) (oT 59) (.const ob))] [1,3,4,5,60] [5] (.ite (oT 60) (oX [oB 2 (.mv (.const ob))] [2] [] (.ret)) (.skip))))) (.keep [1,3,4,5] [5] (.exit 0))))))
 (.keep [1,5] [5] (oX [oB 3 (.mv (oN 1)),oB 4 (.mv (oN 1))] [1,3,4,5] [5] (.exit 0))))) (.keep [1,5] [5] (oX [oB 3 (.mv (oN 2)),oB 4 (.mv (oN 60))] [1,3,4,5] [5] (.exit 0))))) (.keep [] [] (.seq (oX [oB 2 (.mv (.const ob))] [2] [] (.ret)) (.keep [1,3,4,5] [5] (.exit 0))))))) (.keep [1,3,4,5] [5] (oX [oE 61 6 1,oC 62 1 61,oB 63 (.len (oT 62)),oA 64 3,oB 65 (.cmp .geq (oT 63) (oT 64)),
 oA 66 65,oH 67 66 (.faddr 6 (oT 1)),oH 68 66 (.load false 1 (oT 67)),oH 69 66 (.len (oT 68)),oH 70 66 (.mv (oT 4)),oH 71 66 (.cmp .leq (oT 69) (oT 70)),oB 72 (.pick (oT 66) (oT 71) (.const ob)),oA 73 72,oH 74 73 (.faddr 1 (oT 1)),oH 75 73 (.load false 1 (oT 74)),oH 76 73 (.faddr 1 (oT 5)),oH 77 73 (.load false 1 (oT 76)),oH 78 73 (.eql false false [.str] (oT 75) (oT 77)),
 oB 79 (.pick (oT 73) (oT 78) (.const ob)),oA 80 79,oH 81 80 (.faddr 2 (oT 1)),oH 82 80 (.load false 1 (oT 81)),oH 83 80 (.faddr 2 (oT 5)),oH 84 80 (.load false 1 (oT 83)),oH 85 80 (.eql false false [.str] (oT 82) (oT 84)),oB 86 (.pick (oT 80) (oT 85) (.const ob)),oA 87 86,oH 88 87 (.faddr 3 (oT 1)),oH 89 87 (.load false 1 (oT 88)),oH 90 87 (.faddr 3 (oT 5)),
 oH 91 87 (.load false 1 (oT 90)),oH 92 87 (.eql false false [.str] (oT 89) (oT 91)),oB 93 (.pick (oT 87) (oT 92) (.const ob)),oA 94 93,oH 95 94 (.faddr 4 (oT 1)),oH 96 94 (.load false 1 (oT 95)),oH 97 94 (.faddr 4 (oT 5)),oH 98 94 (.load false 1 (oT 97)),oH 99 94 (.eql false false [.str] (oT 96) (oT 98)),oB 100 (.pick (oT 94) (oT 99) (.const ob)),oA 101 100,
 oH 102 101 (.faddr 5 (oT 1)),oH 103 101 (.load false 1 (oT 102)),oH 104 101 (.faddr 5 (oT 5)),oH 105 101 (.load false 1 (oT 104)),oH 106 101 (.eql false false [.bool] (oT 103) (oT 105)),oB 107 (.pick (oT 101) (oT 106) (.const ob)),oA 2 107] [2] [] (.ret))))))
def bI:List ar:= [.tmp 2]
def xA:List Nat:= [1,2034005,2033005,2043005,2042005,2041005,2052005,2051005,2050005]
theorem w5:ay Tryz.prog fD xA bJ bI 108:=ak mixed (by kernel_rfl)
def gO:CC:=oX [oB 3 (.box aL true (oT 1)),oB 4 (.mv (oN 0))] [0,3] [] (oX [oA 5 0,oB 6 (.clo bi [oT 3]),oZ 7 bU [oT 5,oT 6],oA 4 7] [4] [] (.ret))
def gz:List ar:= [.tmp 4]
def sY:List Nat:= [3]
theorem sI:ay Tryz.prog ap sY gO gz 8:=ak mixed (by kernel_rfl)
def fS:CC:=oX [oB 2 (.box yC true (oT 0)),oB 3 (.mv (.const ob))] [1,2] [] (oX [oE 4 0 2,oC 5 1 4,oC 6 1 1,oB 7 (.eql false false [.str] (oT 5) (oT 6)),oA 3 7] [3] [] (.ret))
def fM:List ar:= [.tmp 3]
def rb:List Nat:= [2]
theorem q7:ay Tryz.prog bi rb fS fM 8:=ak mixed (by kernel_rfl)
def gN:CC:=oX [oB 4 (.mv (oN 0))] [0,1] [] (.seq (oX [oA 5 1,oB 6 (.eql false false [.str] (oT 5) (oS ⟨#[]⟩))] [0,1,6] [] (.ite (oT 6) (oX [oA 7 0,oB 8 (.len (oT 7)),oB 9 (.arith .sub (oT 8) (oN 1)),oB 10 (.mm false [oN 0,oT 9]),oA 4 10] [4] [] (.ret)) (.skip))) (.keep [0,1] [] (oX [oA 11 0,oA 12 1,oZ 13 ap [oT 11,oT 12],oA 4 13] [4] [] (.ret))))
def gy:List ar:= [.tmp 4]
def xD:List Nat:= []
theorem w8:ay Tryz.prog cI xD gN gy 14:=ak mixed (by kernel_rfl)
def cn:CC:=oX [oB 2 (.box cQ true (oT 0)),oB 4 (.mv (.const ob))] [1,2] [] (.seq (oX [oE 5 0 2,oC 6 1 5] [1,2,6] [] (.block 0 (oX [oB 8 (.eql false false [.int] (oT 6) (oN 2)),oA 7 8] [1,2,6,7] [] (.ite (oT 7) (oX [oA 9 1,oE 10 1 2,oC 11 1 10,oZ 12 cI [oT 9,oT 11],oB 13 (.cmp .geq (oT 12) (oN 0)),oA 4 13] [4] [] (.ret)) (oX [
 oB 15 (.eql false false [.int] (oT 6) (oN 3)),oA 14 15] [1,2,6,14] [] (.ite (oT 14) (oX [oA 16 1,oE 17 1 2,oC 18 1 17,oZ 19 ap [oT 16,oT 18],oB 20 (.cmp .geq (oT 19) (oN 0)),oA 4 20] [4] [] (.ret)) (oX [oB 22 (.eql false false [.int] (oT 6) (oN 4)),oA 21 22] [1,2,6,21] [] (.ite (oT 21) (oX [oA 23 1,oE 24 1 2,oC 25 1 24,oZ 26 ap [oT 23,oT 25],
 oB 27 (.cmp .geq (oT 26) (oN 0)),oA 28 27,oH 29 28 (.mv (oT 1)),oH 30 28 (.faddr 2 (oT 2)),oH 31 28 (.load false 1 (oT 30)),oH 32 28 (.call ap [oT 29,oT 31]),oH 33 28 (.cmp .geq (oT 32) (oN 0)),oB 34 (.pick (oT 28) (oT 33) (.const ob)),oA 4 34] [4] [] (.ret)) (oX [oB 36 (.eql false false [.int] (oT 6) (oN 5)),oA 35 36] [2,35] [] (.ite (oT 35) (oX [oE 37 1 2,
 oC 38 1 37,oZ 39 aW [oT 38],oA 40 39,oH 41 40 (.faddr 2 (oT 2)),oH 42 40 (.load false 1 (oT 41)),oH 43 40 (.eql false false [.str] (oT 42) (oS ⟨#[]⟩)),oH 44 40 (.mv (oT 43)),oI 45 44 (.faddr 2 (oT 2)),oI 46 44 (.load false 1 (oT 45)),oI 47 44 (.call aW [oT 46]),oH 48 40 (.pick (oT 44) (.const (.bool true)) (oT 47)),
 oB 49 (.pick (oT 40) (oT 48) (.const ob)),oA 4 49] [4] [] (.ret)) (.skip))))))))))) (.keep [] [] (oX [oB 4 (.mv (.const (.bool true)))] [4] [] (.ret))))
def cj:List ar:= [.tmp 4]
def xB:List Nat:= [2]
theorem w6:ay Tryz.prog fE xB cn cj 50:=ak mixed (by kernel_rfl)
def cT:CC:=oX [oB 3 (.box cQ true (oT 0)),oB 6 (.mv (oN 0))] [1,2,3] [] (.seq (oX [oD 7 7 3,oZ 8 fD [oT 7],oB 9 (.not (oT 8))] [1,2,3,9] [] (.ite (oT 9) (oX [oB 6 (.mv (oN 1))] [6] [] (.ret)) (.skip))) (.keep [1,2,3] [] (.seq (oX [oD 10 7 3,oA 11 1,oZ 12 fE [oT 10,oT 11],oB 13 (.not (oT 12))] [1,2,3,13] [] (.ite (oT 13) (oX [
 oB 6 (.mv (oN 4))] [6] [] (.ret)) (.skip))) (.keep [1,2,3] [] (.seq (oX [oE 14 0 3,oC 15 1 14] [1,2,3,15] [] (.block 0 (oX [oB 17 (.eql false false [.int] (oT 15) (oN 2)),oA 16 17] [1,2,3,15,16] [] (.ite (oT 16) (oX [oE 18 3 3,oC 19 1 18,oZ 20 ia [oT 19],oA 6 20] [6] [] (.ret)) (oX [oB 22 (.eql false false [.int] (oT 15) (oN 3)),
 oA 21 22] [1,2,3,15,21] [] (.ite (oT 21) (.seq (oX [oA 23 1,oA 24 1,oE 25 1 3,oC 26 1 25,oZ 27 ap [oT 24,oT 26],oB 28 (.iaddr 2 (oT 23) (oT 27)),oE 29 1 28,oC 30 1 29,oB 31 (.not (oT 30))] [3,31] [] (.ite (oT 31) (oX [oB 6 (.mv (oN 17))] [6] [] (.ret)) (.skip))) (.keep [3] [] (oX [oE 32 3 3,oC 33 1 32,oB 34 (.eql false false [.str] (oT 33) (oS ⟨#[]⟩)),oA 35 34,
 oI 36 35 (.faddr 3 (oT 3)),oI 37 35 (.load false 1 (oT 36)),oI 38 35 (.call gB [oT 37,oS ⟨#[124]⟩]),oB 39 (.pick (oT 35) (.const (.bool true)) (oT 38)),oA 40 39,oI 41 40 (.faddr 3 (oT 3)),oI 42 40 (.load false 1 (oT 41)),oI 43 40 (.call ba [oT 42]),oI 44 40 (.eql true false [.int] (oT 43) (oN 0)),
 oB 45 (.pick (oT 40) (.const (.bool true)) (oT 44))] [45] [] (.ite (oT 45) (oX [oB 6 (.mv (oN 14))] [6] [] (.ret)) (.skip))))) (oX [oB 47 (.eql false false [.int] (oT 15) (oN 5)),oA 46 47] [2,3,15,46] [] (.ite (oT 46) (oX [oE 48 3 3,oC 49 1 48,oZ 50 ba [oT 49],oB 51 (.eql true false [.int] (oT 50) (oN 0))] [51] [] (.ite (oT 51) (oX [oB 6 (.mv (oN 14))] [6] [] (.ret))
 (.skip))) (oX [oB 53 (.eql false false [.int] (oT 15) (oN 4)),oA 52 53] [2,3,52] [] (.ite (oT 52) (oX [oA 54 2,oE 55 4 3,oC 56 1 55,oZ 57 aw [oT 54,oT 56],oB 58 (.not (oT 57))] [58] [] (.ite (oT 58) (oX [oB 6 (.mv (oN 16))] [6] [] (.ret)) (.skip))) (.skip))))))))))) (.keep [] [] (oX [oB 6 (.mv (oN 0))] [6] [] (.ret))))))))
def cS:List ar:= [.tmp 6]
def xE:List Nat:= [3]
theorem w9:ay Tryz.prog fF xE cT cS 59:=ak mixed (by kernel_rfl)
def iv:CC:=oX [oB 3 (.box cQ true (oT 0)),oB 4 (.box DK true (oT 1)),oB 5 (.box kV true (oT 2)),oB 6 (.mv (oN 0))] [3,4,5] [] (.seq (oX [oD 10 7 3,oZ 11 bN [oT 10,oN 0,oN 1],oA 9 11,oB 12 (.ext (oT 9) 0),oB 13 (.ext (oT 9) 1),oA 7 12,oA 8 13] [3,4,5,7,8] [] (oX [oA 14 7,oB 15 (.cmp .gtr (oT 14) (oN 60)),oA 16 15,
 oI 17 16 (.mv (oT 8)),oI 18 16 (.cmp .gtr (oT 17) (oN 20)),oB 19 (.pick (oT 16) (.const (.bool true)) (oT 18))] [3,4,5,19] [] (.ite (oT 19) (oX [oB 6 (.mv (oN 2))] [6] [] (.ret)) (.skip)))) (.keep [3,4,5] [] (oX [oD 20 7 3,oB 21 (.clo bE [oT 4,oT 5]),oZ 22 cw [oT 20,oT 21],oA 6 22] [6] [] (.ret))))
def io:List ar:= [.tmp 6]
def tS:List Nat:= [5,4,3]
theorem tK:ay Tryz.prog dT tS iv io 23:=ak mixed (by kernel_rfl)
def gh:CC:=oX [oB 3 (.box cQ true (oT 0)),oB 4 (.mv (oN 0))] [1,2,3] [] (oX [oD 5 7 3,oC 6 1 1,oC 7 1 2,oZ 8 fF [oT 5,oT 6,oT 7],oA 4 8] [4] [] (.ret))
def fX:List ar:= [.tmp 4]
def rQ:List Nat:= [3]
theorem rL:ay Tryz.prog bE rQ gh fX 9:=ak mixed (by kernel_rfl)
def cp:CC:=oX [oB 3 (.box jc true (oT 0)),oB 6 (.mv (oS ⟨#[]⟩))] [1,2,3] [] (.seq (oX [oA 7 1,oB 8 (.cmp .lss (oT 7) (oN 0)),oA 9 8,oI 10 9 (.mv (oT 1)),oI 11 9 (.faddr 1 (oT 3)),oI 12 9 (.load false 1 (oT 11)),oI 13 9 (.len (oT 12)),oI 14 9 (.cmp .geq (oT 10) (oT 13)),oB 15 (.pick (oT 9) (.const (.bool true)) (oT 14)),oA 16 15,oI 17 16 (.mv (oT 2)),
 oI 18 16 (.cmp .lss (oT 17) (oN 0)),oB 19 (.pick (oT 16) (.const (.bool true)) (oT 18)),oA 20 19,oI 21 20 (.mv (oT 2)),oI 22 20 (.faddr 1 (oT 3)),oI 23 20 (.load false 1 (oT 22)),oI 24 20 (.mv (oT 1)),oI 25 20 (.iaddr 1 (oT 23) (oT 24)),oI 26 20 (.load false 1 (oT 25)),oI 27 20 (.len (oT 26)),oI 28 20 (.cmp .geq (oT 21) (oT 27)),
 oB 29 (.pick (oT 20) (.const (.bool true)) (oT 28))] [1,2,3,29] [] (.ite (oT 29) (oX [oB 6 (.mv (oS ⟨#[]⟩))] [6] [] (.ret)) (.skip))) (.keep [1,2,3] [] (oX [oE 30 1 3,oC 31 1 30,oA 32 1,oB 33 (.iaddr 1 (oT 31) (oT 32)),oC 34 1 33,oA 35 2,oB 36 (.iaddr 1 (oT 34) (oT 35)),oC 37 1 36,oA 6 37] [6] [] (.ret))))
def ck:List ar:= [.tmp 6]
def xF:List Nat:= [3]
theorem xa:ay Tryz.prog cJ xF cp ck 38:=ak mixed (by kernel_rfl)
def jI:CC:=oX [oB 3 (.box jc true (oT 0)),oB 4 (.box cQ true (oT 1)),oB 5 (.box fV true (oT 2)),oB 6 (.mv (.const ob))] [3,4,5] [] (oX [oE 7 3 3,oC 8 1 7,oB 9 (.clo bh [oT 4,oT 5]),oZ 10 aG [oT 8,oT 9],oA 6 10] [6] [] (.ret))
def jw:List ar:= [.tmp 6]
def vU:List Nat:= [5,4,3]
theorem vL:ay Tryz.prog eU vU jI jw 11:=ak mixed (by kernel_rfl)
def cf:CC:=oX [oB 3 (.box Ha true (oT 0)),oB 4 (.mv (.const ob))] [1,2,3] [] (oX [oE 5 0 3,oC 6 1 5,oE 7 1 1,oC 8 1 7,oB 9 (.eql false false [.str] (oT 6) (oT 8)),oA 10 9,oH 11 10 (.faddr 1 (oT 3)),oH 12 10 (.load false 1 (oT 11)),oH 13 10 (.load false 1 (oT 2)),oH 14 10 (.cmp .leq (oT 12) (oT 13)),oB 15 (.pick (oT 10) (oT 14) (.const ob)),oA 16 15,
 oH 17 16 (.load false 1 (oT 2)),oH 18 16 (.faddr 2 (oT 3)),oH 19 16 (.load false 1 (oT 18)),oH 20 16 (.cmp .lss (oT 17) (oT 19)),oB 21 (.pick (oT 16) (oT 20) (.const ob)),oA 22 21,oH 23 22 (.faddr 2 (oT 1)),oH 24 22 (.load false 1 (oT 23)),oH 25 22 (.eql false false [.str] (oT 24) (oS ⟨#[]⟩)),oH 26 22 (.mv (oT 25)),oI 27 26 (.faddr 3 (oT 3)),oI 28 26 (.load false 1 (oT 27)),
 oI 29 26 (.faddr 2 (oT 1)),oI 30 26 (.load false 1 (oT 29)),oI 31 26 (.faddr 3 (oT 1)),oI 32 26 (.load false 1 (oT 31)),oI 33 26 (.build [oe,oe] [(0,1,oT 30),(1,1,oT 32)]),oI 34 26 (.call dc [oT 28,oT 33]),oH 35 22 (.pick (oT 26) (.const (.bool true)) (oT 34)),oB 36 (.pick (oT 22) (oT 35) (.const ob)),oA 4 36] [4] [] (.ret))
def ca:List ar:= [.tmp 4]
def tR:List Nat:= [3]
theorem tJ:ay Tryz.prog bh tR cf ca 37:=ak mixed (by kernel_rfl)
end Go.Gv

namespace Go.Gv
open Cod (enc dec)
variable {S S0:Nat->Spc}
def FunOn {X Y:Type} [Cod X] [Cod Y] (S:Nat->Spc) (d:D) (l:List X) (p:X->Y):Prop:=
 ∃g caps pc,d= .clo g caps/\S g= .pure pc/\ ∀x∈l,pc.pre (enc x::caps)/\ ∀r,pc.post (enc x::caps) r->r=enc (p x)
theorem FunOn.useB {X:Type} [Cod X] {S:Nat->Spc} {d:D} {l:List X} {p:X->Bool} (h:FunOn S d l p) {x:X} (hx:x∈l) {d':Nat} {H:aa} {K:D->aa->Prop} (hk: ∀y:Bool,(∀q:X->Bool,FunOn S d l q->y=q x)->K (.v (.bool y)) H):u5 S d d' [enc x] H K:=by
 obtain⟨g,caps,pc,rfl,h1,h2⟩:=h
 simp only[u5,h1,Spc.pt]
 refine⟨(h2 x hx).1,fun r hr=> ?_⟩
 have e:=(h2 x hx).2 r hr
 rw[e]
 refine hk (p x) fun q hq=> ?_
 obtain⟨g',caps',pc',e',k1,k2⟩:=hq
 cases e'
 rw[h1] at k1
 cases k1
 exact bj (e.symm.trans ((k2 x hx).2 r hr))
theorem rS {X Y Z:Type} [Cod X] [Cod Y] {S:Nat->Spc} {g:Nat} {caps:List D} {A:du Z} {pre:Z->Prop} {post:Z->Y->Prop} {l:List X} {p:X->Y} {f:X->Z} (h:S g=cC A pre enc post) (hd: ∀x∈l,A.dec (enc x::caps)=some (f x)) (hp: ∀x∈l,pre (f x)) (hq: ∀x∈l,∀y,post (f x) y->y=p x):FunOn S (.clo g caps) l p:=by
 refine⟨g,caps,_,rfl,h,fun x hx=> ⟨⟨f x,hd x hx,hp x hx⟩,fun r hr=> ?_⟩⟩
 obtain⟨y,h1,h2⟩:=hr (f x) (hd x hx) (hp x hx)
 rw[h1,hq x hx y h2]
def N9 {X:Type} [Cod X] (S0:Nat->Spc) (x:List X×D×Unit):Prop:= ∃p:X->Bool,FunOn S0 x.2.1 x.1 p
def Xb {X:Type} [Cod X] (S0:Nat->Spc) (x:List X×D×Unit) (y:Int):Prop:= ∀p:X->Bool,FunOn S0 x.2.1 x.1 p->y=gT x.1 p
def ZG {X:Type} [Cod X] (S0:Nat->Spc) (x:List X×D×Unit) (y:Bool):Prop:= ∀p:X->Bool,FunOn S0 x.2.1 x.1 p->y=x.1.any p
abbrev Ef (X:Type) [Cod X] (S0:Nat->Spc):Spc:=cC (aE (List X) (aD a0)) (N9 S0) (enc (X:=Int)) (Xb S0)
abbrev IQ (X:Type) [Cod X] (S0:Nat->Spc):Spc:=cC (aE (List X) (aD a0)) (N9 S0) (enc (X:=Bool)) (ZG S0)
theorem DD:aV dU dK S (aE (List fJ) (aD a0)) (N9 S) (enc (X:=Int)) (Xb S):=by
 rintro⟨l,d,⟨⟩⟩ ⟨p,hp⟩
 simp only at hp
 simp[dU,dK, -Bool.forall_bool, -Bool.exists_bool]
 intro _
 refine aA (X:=Unit) [0,1] [] l.length (fun k _=> ∀p:fJ->Bool,FunOn S d l p-> ∀x∈l.take k,p x=false) (fun _=> []) (fun _=> []) () (by simp) (by simp) (by omega) (by simp) (by simp) (by simp) (by simp) (by simp) ?_ ?_
 ·intro k _ hk hP
  obtain⟨x,hx⟩: ∃x,l[k]?=some x:=⟨_,List.getElem?_eq_getElem hk⟩
  obtain⟨_,hgx⟩:=List.getElem?_eq_some_iff.1 hx
  simp[hk,hx,hgx, -Bool.forall_bool, -Bool.exists_bool]
  refine hp.useB (x:=x) (List.mem_of_getElem? hx) fun y hy=> ?_
  simp[-Bool.forall_bool, -Bool.exists_bool]
  refine⟨fun h=> ?_,fun h p' hp'=> ?_⟩
  ·intro p' hp'
   exact(qE hx (by rw[<-hy p' hp',h]) (hP p' hp')).symm
  ·rw[cU hx]
   intro z hz
   rcases List.mem_append.1 hz with hz | hz
   ·exact hP p' hp' z hz
   ·simp at hz;subst hz;rw[<-hy p' hp',h]
 ·intro _ hP
  simp[-Bool.forall_bool, -Bool.exists_bool]
  intro p' hp'
  exact(kZ (by simpa using hP p' hp')).symm
theorem PE:aV fR fL S (aE (List Cond) (aD a0)) (N9 S) (enc (X:=Int)) (Xb S):=by
 rintro⟨l,d,⟨⟩⟩ ⟨p,hp⟩
 simp only at hp
 simp[fR,fL, -Bool.forall_bool, -Bool.exists_bool]
 intro _
 refine aA (X:=Unit) [0,1] [] l.length (fun k _=> ∀p:Cond->Bool,FunOn S d l p-> ∀x∈l.take k,p x=false) (fun _=> []) (fun _=> []) () (by simp) (by simp) (by omega) (by simp) (by simp) (by simp) (by simp) (by simp) ?_ ?_
 ·intro k _ hk hP
  obtain⟨x,hx⟩: ∃x,l[k]?=some x:=⟨_,List.getElem?_eq_getElem hk⟩
  obtain⟨_,hgx⟩:=List.getElem?_eq_some_iff.1 hx
  simp[hk,hx,hgx, -Bool.forall_bool, -Bool.exists_bool]
  have e:D.agg [.v (.int .i64 x.op), .v (.string x.name), .v (.string x.arg), .v (.string x.val), .v (.string x.lab), .v (.bool x.fold), .list 7 (x.kids.map enc)]=enc x:=by simp
  rw[e]
  refine hp.useB (x:=x) (List.mem_of_getElem? hx) fun y hy=> ?_
  simp[-Bool.forall_bool, -Bool.exists_bool]
  refine⟨fun h=> ?_,fun h p' hp'=> ?_⟩
  ·intro p' hp'
   exact(qE hx (by rw[<-hy p' hp',h]) (hP p' hp')).symm
  ·rw[cU hx]
   intro z hz
   rcases List.mem_append.1 hz with hz | hz
   ·exact hP p' hp' z hz
   ·simp at hz;subst hz;rw[<-hy p' hp',h]
 ·intro _ hP
  simp[-Bool.forall_bool, -Bool.exists_bool]
  intro p' hp'
  exact(kZ (by simpa using hP p' hp')).symm
theorem PF (h1:S cW=Ef Cond S0):aV eA eu S (aE (List Cond) (aD a0)) (N9 S0) (enc (X:=Bool)) (ZG S0):=by
 rintro⟨l,d,⟨⟩⟩ hp
 simp[eA,eu,h1, -Bool.forall_bool, -Bool.exists_bool]
 refine⟨hp,fun y hy p' hp'=> ?_⟩
 rw[hy p' hp']
 exact qD p' l
theorem B1:aV eW eO S (aE (List Region) (aD a0)) (N9 S) (enc (X:=Int)) (Xb S):=by
 rintro⟨l,d,⟨⟩⟩ ⟨p,hp⟩
 simp only at hp
 simp[eW,eO, -Bool.forall_bool, -Bool.exists_bool]
 intro _
 refine aA (X:=Unit) [0,1] [] l.length (fun k _=> ∀p:Region->Bool,FunOn S d l p-> ∀x∈l.take k,p x=false) (fun _=> []) (fun _=> []) () (by simp) (by simp) (by omega) (by simp) (by simp) (by simp) (by simp) (by simp) ?_ ?_
 ·intro k _ hk hP
  obtain⟨x,hx⟩: ∃x,l[k]?=some x:=⟨_,List.getElem?_eq_getElem hk⟩
  obtain⟨_,hgx⟩:=List.getElem?_eq_some_iff.1 hx
  simp[hk,hx,hgx, -Bool.forall_bool, -Bool.exists_bool]
  refine hp.useB (x:=x) (List.mem_of_getElem? hx) fun y hy=> ?_
  simp[-Bool.forall_bool, -Bool.exists_bool]
  refine⟨fun h=> ?_,fun h p' hp'=> ?_⟩
  ·intro p' hp'
   exact(qE hx (by rw[<-hy p' hp',h]) (hP p' hp')).symm
  ·rw[cU hx]
   intro z hz
   rcases List.mem_append.1 hz with hz | hz
   ·exact hP p' hp' z hz
   ·simp at hz;subst hz;rw[<-hy p' hp',h]
 ·intro _ hP
  simp[-Bool.forall_bool, -Bool.exists_bool]
  intro p' hp'
  exact(kZ (by simpa using hP p' hp')).symm
theorem B2 (h1:S bC=Ef Region S0):aV dV dL S (aE (List Region) (aD a0)) (N9 S0) (enc (X:=Bool)) (ZG S0):=by
 rintro⟨l,d,⟨⟩⟩ hp
 simp[dV,dL,h1, -Bool.forall_bool, -Bool.exists_bool]
 refine⟨hp,fun y hy p' hp'=> ?_⟩
 rw[hy p' hp']
 exact qD p' l
end Go.Gv
