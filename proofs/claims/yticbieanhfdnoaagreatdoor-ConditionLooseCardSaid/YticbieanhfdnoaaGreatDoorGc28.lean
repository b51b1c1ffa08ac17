/- A part of the framework and of the walks: V2 C57. -/
import Derived.Test.YticbieanhfdnoaaGreatDoorGc21
set_option linter.unusedSimpArgs false
set_option linter.unusedVariables false

namespace Go.Gv
open Cod (enc dec)
structure Cond where
 op:Int
 name:B
 arg:B
 val:B
 lab:B
 fold:Bool
 kids:List Cond
mutual
def Bw:Cond→D
 | .mk op n a v l f ks=> .agg [enc op,enc n,enc a,enc v,enc l,enc f, .list 7 (qV ks)]
def qV:List Cond→List D
 | []=> []
 | k::ks=> Bw k::qV ks
end
mutual
def CE:D→Option Cond
 | .agg [x0,x1,x2,x3,x4,x5,x6]=> (dec x0).bind fun op=> (dec x1).bind fun n=> (dec x2).bind fun a=> (dec x3).bind fun v=> (dec x4).bind fun l=> (dec x5).bind fun f=> (Hm x6).bind fun ks=> some (.mk op n a v l f ks)
 | _=> none
def Hm:D→Option (List Cond)
 | .list n es=> if n=7 then sK es else none
 | .v (.slice none 0 0)=> some []
 | _=> none
def sK:List D→Option (List Cond)
 | []=> some []
 | d::ds=> (CE d).bind fun x=> (sK ds).bind fun xs=> some (x::xs)
end
theorem xR: ∀l:List Cond,qV l=l.map Bw
 | []=> rfl
 | _::l=> by rw[qV,xR l];rfl
theorem Kh: ∀c:Cond,(Bw c).kn=true
 | .mk .. => rfl
theorem Hd: ∀c:Cond,(Bw c).cells.length=7
 | .mk .. => rfl
mutual
theorem Hq: ∀c:Cond,CE (Bw c)=some c
 | .mk op n a v l f ks=> by
   have h:Hm (.list 7 (qV ks))=some ks:=by rw[Hm,if_pos rfl];exact DF ks
   simp only[Bw,CE,Cod.dec_enc,Option.bind_some,h]
theorem DF: ∀l:List Cond,sK (qV l)=some l
 | []=> by simp only[qV,sK]
 | c::l=> by simp only[qV,sK,Hq c,DF l,Option.bind_some]
end
mutual
theorem Km: ∀ (d:D) (c:Cond),CE d=some c→FrzTo df d (Bw c)
 | .agg [x0,x1,x2,x3,x4,x5,x6],c,h=> by
   simp only[CE,Option.bind_eq_some_iff,Option.some.injEq] at h
   obtain⟨op,h0,n,h1,a,h2,v,h3,l,h4,f,h5,ks,h6,rfl⟩:=h
   rw[Bw]
   exact LeL.agg (.cons (Cod.le _ _ h0) (.cons (Cod.le _ _ h1) (.cons (Cod.le _ _ h2) (.cons (Cod.le _ _ h3) (.cons (Cod.le _ _ h4) (.cons (Cod.le _ _ h5) (.cons (Kk x6 ks h6) .nil)))))))
theorem Kk: ∀ (d:D) (l:List Cond),Hm d=some l→FrzTo df d (.list 7 (qV l))
 | .list n es,l,h=> by
   simp only[Hm] at h
   split at h
   ·rename_i hn
    subst hn
    have hl:=Hp es l h
    refine .list hl.1 (fun e he=> ?_) hl.2
    rw[xR] at he
    obtain⟨x,hx,rfl⟩:=List.mem_map.1 he
    exact⟨Kh x,Hd x⟩
   ·cases h
 | .v (.slice none 0 0),l,h=> by
   simp only[Hm,Option.some.injEq] at h
   subst h
   exact .nil _
theorem Hp: ∀ (es:List D) (l:List Cond),sK es=some l→LeL es (qV l)
 | [],l,h=> by
   simp only[sK,Option.some.injEq] at h
   subst h
   exact .nil
 | d::ds,l,h=> by
   simp only[sK,Option.bind_eq_some_iff,Option.some.injEq] at h
   obtain⟨x,h1,xs,h2,rfl⟩:=h
   rw[qV]
   exact .cons (Km d x h1) (Hp ds xs h2)
end
instance:Cod Cond where
 wd:=7
 enc:=Bw
 dec:=CE
 kn:=Kh
 wid:=Hd
 dec_enc:=Hq
 le:=Km
theorem Dy (ks:List Cond):D.list 7 (qV ks)=enc ks:=by rw[xR];rfl
theorem G8 (op:Int) (n a v l:B) (f:Bool) (ks:List Cond):enc (Cond.mk op n a v l f ks)= .agg [enc op,enc n,enc a,enc v,enc l,enc f,enc ks]:=by
 rw[←Dy]
 show Bw _=_
 rw[Bw]
structure Fp where
 op:Int
 cond:Cond
 lab:B
 reg:B
 mn:Int
 mx:Int
 kids:List Fp
def Fg:Cond→List D
 | .mk op n a v l f ks=> [enc op,enc n,enc a,enc v,enc l,enc f,enc ks]
theorem Jk: ∀c:Cond,(Fg c).length=7
 | .mk .. => rfl
mutual
def CD:Fp→D
 | .mk op c l r mn mx ks=> .agg (enc op:: (Fg c++ [enc l,enc r,enc mn,enc mx, .list 13 (sH ks)]))
def sH:List Fp→List D
 | []=> []
 | k::ks=> CD k::sH ks
end
mutual
def LM:D→Option Fp
 | .agg [x0,y0,y1,y2,y3,y4,y5,y6,x1,x2,x3,x4,x5]=> (dec x0).bind fun op=> (dec (D.agg [y0,y1,y2,y3,y4,y5,y6])).bind fun c=> (dec x1).bind fun l=> (dec x2).bind fun r=> (dec x3).bind fun mn=> (dec x4).bind fun mx=> (DB x5).bind fun ks=> some (.mk op c l r mn mx ks)
 | _=> none
def DB:D→Option (List Fp)
 | .list n es=> if n=13 then yu es else none
 | .v (.slice none 0 0)=> some []
 | _=> none
def yu:List D→Option (List Fp)
 | []=> some []
 | d::ds=> (LM d).bind fun x=> (yu ds).bind fun xs=> some (x::xs)
end
theorem Dw: ∀l:List Fp,sH l=l.map CD
 | []=> rfl
 | _::l=> by rw[sH,Dw l];rfl
theorem Kf: ∀c:Fp,(CD c).kn=true
 | .mk .. => rfl
theorem Ha: ∀c:Fp,(CD c).cells.length=13
 | .mk op c l r mn mx ks=> by simp[CD,D.cells,Jk]
mutual
theorem Hl: ∀c:Fp,LM (CD c)=some c
 | .mk op (.mk cop n a v cl f cks) l r mn mx ks=> by
   have h:DB (.list 13 (sH ks))=some ks:=by rw[DB,if_pos rfl];exact DA ks
   have hc:dec (D.agg [enc cop,enc n,enc a,enc v,enc cl,enc f,enc cks])=some (Cond.mk cop n a v cl f cks):=by rw[←G8];exact Cod.dec_enc _
   simp only[CD,Fg,List.cons_append,List.nil_append,LM,Cod.dec_enc,Option.bind_some,h,hc]
theorem DA: ∀l:List Fp,yu (sH l)=some l
 | []=> by simp only[sH,yu]
 | c::l=> by simp only[sH,yu,Hl c,DA l,Option.bind_some]
end
theorem LL {y0 y1 y2 y3 y4 y5 y6:D} {c:Cond} (h:dec (D.agg [y0,y1,y2,y3,y4,y5,y6])=some c):LeL [y0,y1,y2,y3,y4,y5,y6] (Fg c):=by
 have h':CE (D.agg [y0,y1,y2,y3,y4,y5,y6])=some c:=h
 simp only[CE,Option.bind_eq_some_iff,Option.some.injEq] at h'
 obtain⟨op,h0,n,h1,a,h2,v,h3,l,h4,f,h5,ks,h6,rfl⟩:=h'
 have hk:=Kk y6 ks h6
 rw[Dy] at hk
 exact .cons (Cod.le _ _ h0) (.cons (Cod.le _ _ h1) (.cons (Cod.le _ _ h2) (.cons (Cod.le _ _ h3) (.cons (Cod.le _ _ h4) (.cons (Cod.le _ _ h5) (.cons hk .nil))))))
theorem LeL.append {a b c d:List D} (h:LeL a b) (k:LeL c d):LeL (a++c) (b++d):=by
 refine⟨by simp[h.1,k.1],fun i x y hx hy=> ?_⟩
 rw[List.getElem?_append] at hx hy
 by_cases hi:i < a.length
 ·rw[if_pos hi] at hx
  rw[if_pos (by rw[←h.1];exact hi)] at hy
  exact h.2 i x y hx hy
 ·rw[if_neg hi] at hx
  rw[if_neg (by rw[←h.1];exact hi),←h.1] at hy
  exact k.2 _ x y hx hy
mutual
theorem Kj: ∀ (d:D) (c:Fp),LM d=some c→FrzTo df d (CD c)
 | .agg [x0,y0,y1,y2,y3,y4,y5,y6,x1,x2,x3,x4,x5],c,h=> by
   simp only[LM,Option.bind_eq_some_iff,Option.some.injEq] at h
   obtain⟨op,h0,c,h1,l,h2,r,h3,mn,h4,mx,h5,ks,h6,rfl⟩:=h
   rw[CD]
   exact LeL.agg (.cons (Cod.le _ _ h0) ((LL h1).append (.cons (Cod.le _ _ h2) (.cons (Cod.le _ _ h3) (.cons (Cod.le _ _ h4) (.cons (Cod.le _ _ h5) (.cons (Og x5 ks h6) .nil)))))))
theorem Og: ∀ (d:D) (l:List Fp),DB d=some l→FrzTo df d (.list 13 (sH l))
 | .list n es,l,h=> by
   simp only[DB] at h
   split at h
   ·rename_i hn
    subst hn
    have hl:=Hk es l h
    refine .list hl.1 (fun e he=> ?_) hl.2
    rw[Dw] at he
    obtain⟨x,hx,rfl⟩:=List.mem_map.1 he
    exact⟨Kf x,Ha x⟩
   ·cases h
 | .v (.slice none 0 0),l,h=> by
   simp only[DB,Option.some.injEq] at h
   subst h
   exact .nil _
theorem Hk: ∀ (es:List D) (l:List Fp),yu es=some l→LeL es (sH l)
 | [],l,h=> by
   simp only[yu,Option.some.injEq] at h
   subst h
   exact .nil
 | d::ds,l,h=> by
   simp only[yu,Option.bind_eq_some_iff,Option.some.injEq] at h
   obtain⟨x,h1,xs,h2,rfl⟩:=h
   rw[sH]
   exact .cons (Kj d x h1) (Hk ds xs h2)
end
instance:Cod Fp where
 wd:=13
 enc:=CD
 dec:=LM
 kn:=Kf
 wid:=Ha
 dec_enc:=Hl
 le:=Kj
theorem BC: ∀es:List D,sK es=es.mapM (dec (X:=Cond))
 | []=> by simp[sK]
 | d::es=> by
   rw[sK,List.mapM_cons,BC es]
   rfl
theorem Qu: ∀d:D,Hm d=dec (X:=List Cond) d:=fun d=> by
 unfold Hm
 split
 ·rename_i n es
  show _=if n=7 then es.mapM (dec (X:=Cond)) else none
  rw[BC]
 ·rfl
 ·rename_i h1 h2
  show _=(match d with
   | .list n es=> if n=7 then es.mapM (dec (X:=Cond)) else none
   | .v (.slice none 0 0)=> some []
   | _=> none)
  split
  ·exact absurd rfl (h1 _ _)
  ·exact absurd rfl h2
  ·rfl
@[simp] theorem N0 (s:Cond):Cond.mk s.op s.name s.arg s.val s.lab s.fold s.kids=s:=by cases s;rfl
@[simp] theorem N4 (s:Cond):enc s= .agg [enc s.op,enc s.name,enc s.arg,enc s.val,enc s.lab,enc s.fold,enc s.kids]:=by cases s;exact G8 ..
@[simp] theorem WC:Cod.wd Cond=7:=id rfl
@[simp] theorem VG (x0 x1 x2 x3 x4 x5 x6:D):dec (X:=Cond) (.agg [x0,x1,x2,x3,x4,x5,x6])=((dec x0).bind fun x0=> (dec x1).bind fun x1=> (dec x2).bind fun x2=> (dec x3).bind fun x3=> (dec x4).bind fun x4=> (dec x5).bind fun x5=> (dec x6).bind fun x6=> some ⟨x0,x1,x2,x3,x4,x5,x6⟩):=by
 show CE _=_
 simp only[CE,Qu]
end Go.Gv

namespace Go.Gv
open Go.Proofs
-- slices_IndexFunc_Attribute range i=8 n=7 c=9 i2=18 id=0: live [0:s, 1:f] changed [] res []
def dH:CC:=oX [oB 4 (.mv (oN 0))] [0,1] [] (.seq (oX [oA 6 0,oB 7 (.len (oT 6)),oB 8 (.mv (oN 0))] [0,1,7,8] [] (aw 0 8 7 9 1 (oX [oA 10 8,oA 5 10] [0,1,5,7,8] [] (oX [oA 11 1,oA 12 0,oA 13 5,oB 14 (.iaddr 2 (oT 12) (oT 13)),oD 15 2 14,oB 16 (.callv (oT 11) [oT 15])] [0,1,5,7,8,16] [] (.ite (oT 16) (oX [oA 17 5,oA 4 17] [4] [] (.ret))
 (.skip)))) 18)) (.keep [] [] (oX [oB 4 (.mv (oN (-1)))] [4] [] (.ret))))
def dz:List au:= [.tmp 4]
def lG:List Nat:= []
theorem lD:ay Tryz.prog bS lG dH dz 19:=ap mixed (by kernel_rfl)
def dY:CC:=oX [oB 4 (.mv (.const ob))] [0,1] [] (oX [oA 5 0,oA 6 1,oZ 7 bG [oT 5,oT 6],oB 8 (.cmp .geq (oT 7) (oN 0)),oA 4 8] [4] [] (.ret))
def dW:List au:= [.tmp 4]
def mJ:List Nat:= []
theorem gH:ay Tryz.prog aF mJ dY dW 9:=ap mixed (by kernel_rfl)
-- slices_IndexFunc_Cond range i=8 n=7 c=9 i2=18 id=0: live [0:s, 1:f] changed [] res []
def e8:CC:=oX [oB 4 (.mv (oN 0))] [0,1] [] (.seq (oX [oA 6 0,oB 7 (.len (oT 6)),oB 8 (.mv (oN 0))] [0,1,7,8] [] (aw 0 8 7 9 1 (oX [oA 10 8,oA 5 10] [0,1,5,7,8] [] (oX [oA 11 1,oA 12 0,oA 13 5,oB 14 (.iaddr 7 (oT 12) (oT 13)),oD 15 7 14,oB 16 (.callv (oT 11) [oT 15])] [0,1,5,7,8,16] [] (.ite (oT 16) (oX [oA 17 5,oA 4 17] [4] [] (.ret)) (.skip)))) 18))
 (.keep [] [] (oX [oB 4 (.mv (oN (-1)))] [4] [] (.ret))))
def eW:List au:= [.tmp 4]
def oQ:List Nat:= []
theorem iX:ay Tryz.prog bG oQ e8 eW 19:=ap mixed (by kernel_rfl)
def ek:CC:=oX [oB 4 (.mv (.const ob))] [0,1] [] (oX [oA 5 0,oA 6 1,oZ 7 cV [oT 5,oT 6],oB 8 (.cmp .geq (oT 7) (oN 0)),oA 4 8] [4] [] (.ret))
def ed:List au:= [.tmp 4]
def nj:List Nat:= []
theorem ng:ay Tryz.prog cz nj ek ed 9:=ap mixed (by kernel_rfl)
-- slices_IndexFunc_int range i=8 n=7 c=9 i2=18 id=0: live [0:s, 1:f] changed [] res []
def fy:CC:=oX [oB 4 (.mv (oN 0))] [0,1] [] (.seq (oX [oA 6 0,oB 7 (.len (oT 6)),oB 8 (.mv (oN 0))] [0,1,7,8] [] (aw 0 8 7 9 1 (oX [oA 10 8,oA 5 10] [0,1,5,7,8] [] (oX [oA 11 1,oA 12 0,oA 13 5,oB 14 (.iaddr 1 (oT 12) (oT 13)),oC 15 1 14,oB 16 (.callv (oT 11) [oT 15])] [0,1,5,7,8,16] [] (.ite (oT 16) (oX [oA 17 5,oA 4 17] [4] [] (.ret)) (.skip)))) 18))
 (.keep [] [] (oX [oB 4 (.mv (oN (-1)))] [4] [] (.ret))))
def fe:List au:= [.tmp 4]
def pu:List Nat:= []
theorem pi:ay Tryz.prog cV pu fy fe 19:=ap mixed (by kernel_rfl)
def dI:CC:=oX [oB 4 (.mv (.const ob))] [0,1] [] (oX [oA 5 0,oA 6 1,oZ 7 cy [oT 5,oT 6],oB 8 (.cmp .geq (oT 7) (oN 0)),oA 4 8] [4] [] (.ret))
def dA:List au:= [.tmp 4]
def lH:List Nat:= []
theorem lE:ay Tryz.prog bT lH dI dA 9:=ap mixed (by kernel_rfl)
-- slices_IndexFunc_Region range i=8 n=7 c=9 i2=18 id=0: live [0:s, 1:f] changed [] res []
def ej:CC:=oX [oB 4 (.mv (oN 0))] [0,1] [] (.seq (oX [oA 6 0,oB 7 (.len (oT 6)),oB 8 (.mv (oN 0))] [0,1,7,8] [] (aw 0 8 7 9 1 (oX [oA 10 8,oA 5 10] [0,1,5,7,8] [] (oX [oA 11 1,oA 12 0,oA 13 5,oB 14 (.iaddr 4 (oT 12) (oT 13)),oD 15 4 14,oB 16 (.callv (oT 11) [oT 15])] [0,1,5,7,8,16] [] (.ite (oT 16) (oX [oA 17 5,oA 4 17] [4] [] (.ret)) (.skip)))) 18))
 (.keep [] [] (oX [oB 4 (.mv (oN (-1)))] [4] [] (.ret))))
def eb:List au:= [.tmp 4]
def ni:List Nat:= []
theorem nf:ay Tryz.prog cy ni ej eb 19:=ap mixed (by kernel_rfl)
def fA:CC:=oX [oB 3 (.box vB true (oT 1)),oB 4 (.mv (.const ob))] [0,3] [] (oX [oA 5 0,oD 6 2 3,oZ 7 dR [oT 5,oT 6],oB 8 (.cmp .geq (oT 7) (oN 0)),oA 4 8] [4] [] (.ret))
def ff:List au:= [.tmp 4]
def pv:List Nat:= [3]
theorem pj:ay Tryz.prog cW pv fA ff 9:=ap mixed (by kernel_rfl)
-- slices_Index_Pair range i=8 n=7 c=9 i2=18 id=0: live [0:s, 3:v] changed [] res []
def ij:CC:=oX [oB 3 (.box vB true (oT 1)),oB 4 (.mv (oN 0))] [0,3] [] (.seq (oX [oA 6 0,oB 7 (.len (oT 6)),oB 8 (.mv (oN 0))] [0,3,7,8] [] (aw 0 8 7 9 1 (oX [oA 10 8,oA 5 10] [0,3,5,7,8] [] (.seq (.regd [oD 11 2 3,oA 12 0,oA 13 5,oB 14 (.iaddr 2 (oT 12) (oT 13)),oD 15 2 14] [oB 16 (.eql false true [.str,.str] (oT 11) (oT 15))])
 (.keep [0,3,5,7,8,16] [] (.ite (oT 16) (oX [oA 17 5,oA 4 17] [4] [] (.ret)) (.skip))))) 18)) (.keep [] [] (oX [oB 4 (.mv (oN (-1)))] [4] [] (.ret))))
def gM:List au:= [.tmp 4]
def sr:List Nat:= [3]
theorem rW:ay Tryz.prog dR sr ij gM 19:=ap mixed (by kernel_rfl)
-- slices_Index_string range i=8 n=7 c=9 i2=18 id=0: live [0:s, 1:v] changed [] res []
def fZ:CC:=oX [oB 4 (.mv (oN 0))] [0,1] [] (.seq (oX [oA 6 0,oB 7 (.len (oT 6)),oB 8 (.mv (oN 0))] [0,1,7,8] [] (aw 0 8 7 9 1 (oX [oA 10 8,oA 5 10] [0,1,5,7,8] [] (oX [oA 11 1,oA 12 0,oA 13 5,oB 14 (.iaddr 1 (oT 12) (oT 13)),oC 15 1 14,oB 16 (.eql false false [.str] (oT 11) (oT 15))] [0,1,5,7,8,16] [] (.ite (oT 16) (oX [oA 17 5,oA 4 17] [4] [] (.ret))
 (.skip)))) 18)) (.keep [] [] (oX [oB 4 (.mv (oN (-1)))] [4] [] (.ret))))
def fL:List au:= [.tmp 4]
def qq:List Nat:= []
theorem qf:ay Tryz.prog ba qq fZ fL 19:=ap mixed (by kernel_rfl)
def dc:CC:=oX [oB 4 (.mv (.const ob))] [0,1] [] (oX [oA 5 0,oA 6 1,oZ 7 ba [oT 5,oT 6],oB 8 (.cmp .geq (oT 7) (oN 0)),oA 4 8] [4] [] (.ret))
def db:List au:= [.tmp 4]
def nR:List Nat:= []
theorem iD:ay Tryz.prog aL nR dc db 9:=ap mixed (by kernel_rfl)
-- condition_measure range i=19 n=18 c=20 i2=37 id=0: live [1:nodes, 2:deep, 8:deepest, 17:] changed [1, 8] res []
def iu:CC:=oX [oB 3 (.box aU true (oT 0)),oB 6 (.mv (oN 0)),oB 7 (.mv (oN 0))] [1,2,3] [] (oX [oA 13 1,oB 14 (.arith .add (oT 13) (oN 1)),oA 1 14] [1,2,3] [] (oX [oA 15 2,oA 8 15] [1,2,3,8] [] (.seq (oX [oE 16 6 3,oC 17 1 16,oB 18 (.len (oT 17)),oB 19 (.mv (oN 0))] [1,2,8,17,18,19] [] (aw 0 19 18 20 1 (oX [oB 21 (.iaddr 7 (oT 17) (oT 19)),oD 22 7 21,
 oB 10 (.alloc aU [oi,oe,oe,oe,oe,ob,on]),oF 7 10 22] [1,2,8,10,17,18,19] [10] (.seq (oX [oA 23 1,oB 24 (.cmp .gtr (oT 23) (oN 60))] [1,2,8,10,17,18,19,24] [10] (.ite (oT 24) (.exit 0) (.skip))) (.keep [1,2,8,10,17,18,19] [10] (oX [oD 26 7 10,oA 27 1,oA 28 2,oB 29 (.arith .add (oT 28) (oN 1)),oZ 30 aS [oT 26,oT 27,oT 29],oA 25 30,oB 31 (.ext (oT 25) 0),
 oB 32 (.ext (oT 25) 1),oA 11 31,oA 12 32] [2,8,11,12,17,18,19] [] (.reg [oA 33 11,oA 34 8,oA 35 12,oB 36 (.mm true [oT 34,oT 35]),oA 1 33,oA 8 36]))))) 37)) (.keep [1,8] [] (oX [oA 38 1,oA 39 8,oA 6 38,oA 7 39] [6,7] [] (.ret))))))
def gS:List au:= [.tmp 6, .tmp 7]
def sB:List Nat:= [3]
theorem sa:ay Tryz.prog aS sB iu gS 40:=ap mixed (by kernel_rfl)
def jD:CC:=oX [oB 1 (.box aU true (oT 0)),oB 2 (.mv (.const ob))] [1] [] (oX [oD 6 7 1,oZ 7 aS [oT 6,oN 0,oN 1],oA 5 7,oB 8 (.ext (oT 5) 0),oB 9 (.ext (oT 5) 1),oA 3 8,oA 4 9] [3] [] (oX [oA 10 3,oB 11 (.cmp .gtr (oT 10) (oN 60)),oA 2 11] [2] [] (.ret)))
def jt:List au:= [.tmp 2]
def uP:List Nat:= [1]
theorem uo:ay Tryz.prog bu uP jD jt 12:=ap mixed (by kernel_rfl)
-- condition_walk range i=18 n=17 c=19 i2=28 id=0: live [1:f, 16:] changed [] res []
def kM:CC:=oX [oB 2 (.box aU true (oT 0)),oB 4 (.mv (oN 0))] [1,2] [] (.seq (oX [oA 9 1,oD 10 7 2,oB 11 (.callv (oT 9) [oT 10]),oA 5 11] [1,2,5] [] (oX [oA 12 5,oB 13 (.eql true false [.int] (oT 12) (oN 0))] [1,2,5,13] [] (.ite (oT 13) (oX [oA 14 5,oA 4 14] [4] [] (.ret)) (.skip)))) (.keep [1,2] [] (.seq (oX [oE 15 6 2,oC 16 1 15,oB 17 (.len (oT 16)),
 oB 18 (.mv (oN 0))] [1,16,17,18] [] (aw 0 18 17 19 1 (oX [oB 20 (.iaddr 7 (oT 16) (oT 18)),oD 21 7 20,oB 7 (.alloc aU [oi,oe,oe,oe,oe,ob,on]),oF 7 7 21] [1,7,16,17,18] [7] (oX [oD 22 7 7,oA 23 1,oZ 24 aC [oT 22,oT 23],oA 8 24] [1,8,16,17,18] [] (oX [oA 25 8,oB 26 (.eql true false [.int] (oT 25) (oN 0))] [1,8,16,17,18,26] [] (.ite (oT 26) (oX [oA 27 8,
 oA 4 27] [4] [] (.ret)) (.skip))))) 28)) (.keep [] [] (oX [oB 4 (.mv (oN 0))] [4] [] (.ret))))))
def j7:List au:= [.tmp 4]
def wt:List Nat:= [2]
theorem vZ:ay Tryz.prog aC wt kM j7 29:=ap mixed (by kernel_rfl)
def bD:CC:=oX [oB 1 (.box aU true (oT 0)),oB 2 (.mv (.const ob))] [1] [] (oX [oB 3 (.mv (oN 0)),oB 4 (.mv (oN 0))] [1,3,4] [] (oX [oE 6 0 1,oC 7 1 6,oB 8 (.build [oi,oe,oe,oe,oe,ob,on] [(0,1,oT 7)]),oB 5 (.alloc aU [oi,oe,oe,oe,oe,ob,on]),oF 7 5 8] [1,3,4,5] [5] (.seq (oX [oE 9 0 1,
 oC 10 1 9] [1,3,4,5,10] [5] (.block 0 (.seq (.block 8 (.seq (.block 7 (.seq (.block 6 (.seq (.block 5 (.seq (.block 4 (.seq (.block 3 (.seq (.block 2 (.seq (.block 1 (.seq (.seq (oX [oB 12 (.eql false false [.int] (oT 10) (oN 1)),oA 11 12] [1,3,4,5,10,11] [5] (.ite (oT 11) (.exit 1) (.skip))) (.keep [1,3,4,5,10] [5] (.seq (oX [oB 14 (.eql false false [.int] (oT 10) (oN 2)),
 oA 13 14] [1,3,4,5,10,13] [5] (.ite (oT 13) (.exit 2) (.skip))) (.keep [1,3,4,5,10] [5] (.seq (oX [oB 16 (.eql false false [.int] (oT 10) (oN 3)),oA 15 16] [1,3,4,5,10,15] [5] (.ite (oT 15) (.exit 3) (.skip))) (.keep [1,3,4,5,10] [5] (.seq (oX [oB 18 (.eql false false [.int] (oT 10) (oN 4)),oA 17 18] [1,3,4,5,10,17] [5] (.ite (oT 17) (.exit 4) (.skip))) (.keep [1,3,4,5,10] [5] (.seq (oX [
 oB 20 (.eql false false [.int] (oT 10) (oN 5)),oA 19 20] [1,3,4,5,10,19] [5] (.ite (oT 19) (.exit 5) (.skip))) (.keep [1,5,10] [5] (.seq (oX [oB 22 (.eql false false [.int] (oT 10) (oN 6)),oA 21 22] [1,5,10,21] [5] (.ite (oT 21) (.exit 6) (.skip))) (.keep [1,5,10] [5] (.seq (oX [oB 24 (.eql false false [.int] (oT 10) (oN 7)),oA 23 24] [1,5,10,23] [5] (.ite (oT 23) (.skip) (.reg [
 oB 25 (.eql false false [.int] (oT 10) (oN 8)),oA 23 25]))) (.keep [1,5,23] [5] (.ite (oT 23) (.exit 7) (.skip)))))))))))))))) (.keep [] [] (.exit 8)))) (.keep [1,3,4,5] [5] (.exit 0)))) (.keep [1,3,4,5] [5] (.reg [oE 26 5 1,oC 27 1 26,oE 28 5 5,oF 1 28 27])))) (.keep [1,3,4,5] [5] (.seq (.regd [oE 29 1 1,oC 30 1 29,oE 31 3 1,oC 32 1 31,oE 33 1 5,
 .op none none (.store (some 5) 1 (oT 33) (oT 30))] [oE 34 3 5,.op none none (.store (some 5) 1 (oT 34) (oT 32))]) (.keep [1,3,4,5] [5] (.exit 0)))))) (.keep [1,3,4,5] [5] (.seq (.regd [oE 35 1 1,oC 36 1 35,oE 37 4 1,oC 38 1 37,oE 39 2 1,oC 40 1 39,oE 41 1 5,.op none none (.store (some 5) 1 (oT 41) (oT 36)),oE 42 4 5,.op none none (.store (some 5) 1 (oT 42) (oT 38))] [oE 43 2 5,
 .op none none (.store (some 5) 1 (oT 43) (oT 40))]) (.keep [1,3,4,5] [5] (.exit 0)))))) (.keep [1,3,4,5] [5] (.seq (.seq (.regd [oE 44 1 1,oC 45 1 44,oE 46 2 1,oC 47 1 46,oE 48 3 1,oC 49 1 48,oE 50 1 5,.op none none (.store (some 5) 1 (oT 50) (oT 45)),oE 51 2 5,.op none none (.store (some 5) 1 (oT 51) (oT 47))] [oE 52 3 5,.op none none (.store (some 5) 1 (oT 52) (oT 49))])
 (.keep [1,3,4,5] [5] (oX [oE 53 2 1,oC 54 1 53,oB 55 (.eql false false [.str] (oT 54) (oS ⟨#[]⟩)),oA 56 55,oH 57 56 (.faddr 3 (oT 1)),oH 58 56 (.load false 1 (oT 57)),oH 59 56 (.eql true false [.str] (oT 58) (oS ⟨#[]⟩)),oB 60 (.pick (oT 56) (oT 59) (.const ob))] [1,3,4,5,60] [5] (.ite (oT 60) (oX [oB 2 (.mv (.const ob))] [2] [] (.ret)) (.skip))))) (.keep [1,3,4,5] [5] (.exit 0))))))
 (.keep [1,5] [5] (oX [oB 3 (.mv (oN 1)),oB 4 (.mv (oN 1))] [1,3,4,5] [5] (.exit 0))))) (.keep [1,5] [5] (oX [oB 3 (.mv (oN 2)),oB 4 (.mv (oN 60))] [1,3,4,5] [5] (.exit 0))))) (.keep [] [] (.seq (oX [oB 2 (.mv (.const ob))] [2] [] (.ret)) (.keep [1,3,4,5] [5] (.exit 0))))))) (.keep [1,3,4,5] [5] (oX [oE 61 6 1,oC 62 1 61,oB 63 (.len (oT 62)),oA 64 3,oB 65 (.cmp .geq (oT 63) (oT 64)),
 oA 66 65,oH 67 66 (.faddr 6 (oT 1)),oH 68 66 (.load false 1 (oT 67)),oH 69 66 (.len (oT 68)),oH 70 66 (.mv (oT 4)),oH 71 66 (.cmp .leq (oT 69) (oT 70)),oB 72 (.pick (oT 66) (oT 71) (.const ob)),oA 73 72,oH 74 73 (.faddr 1 (oT 1)),oH 75 73 (.load false 1 (oT 74)),oH 76 73 (.faddr 1 (oT 5)),oH 77 73 (.load false 1 (oT 76)),oH 78 73 (.eql false false [.str] (oT 75) (oT 77)),
 oB 79 (.pick (oT 73) (oT 78) (.const ob)),oA 80 79,oH 81 80 (.faddr 2 (oT 1)),oH 82 80 (.load false 1 (oT 81)),oH 83 80 (.faddr 2 (oT 5)),oH 84 80 (.load false 1 (oT 83)),oH 85 80 (.eql false false [.str] (oT 82) (oT 84)),oB 86 (.pick (oT 80) (oT 85) (.const ob)),oA 87 86,oH 88 87 (.faddr 3 (oT 1)),oH 89 87 (.load false 1 (oT 88)),oH 90 87 (.faddr 3 (oT 5)),
 oH 91 87 (.load false 1 (oT 90)),oH 92 87 (.eql false false [.str] (oT 89) (oT 91)),oB 93 (.pick (oT 87) (oT 92) (.const ob)),oA 94 93,oH 95 94 (.faddr 4 (oT 1)),oH 96 94 (.load false 1 (oT 95)),oH 97 94 (.faddr 4 (oT 5)),oH 98 94 (.load false 1 (oT 97)),oH 99 94 (.eql false false [.str] (oT 96) (oT 98)),oB 100 (.pick (oT 94) (oT 99) (.const ob)),oA 101 100,
 oH 102 101 (.faddr 5 (oT 1)),oH 103 101 (.load false 1 (oT 102)),oH 104 101 (.faddr 5 (oT 5)),oH 105 101 (.load false 1 (oT 104)),oH 106 101 (.eql false false [.bool] (oT 103) (oT 105)),oB 107 (.pick (oT 101) (oT 106) (.const ob)),oA 2 107] [2] [] (.ret))))))
def bC:List au:= [.tmp 2]
def uM:List Nat:= [1,2034005,2033005,2043005,2042005,2041005,2052005,2051005,2050005]
theorem ul:ay Tryz.prog eL uM bD bC 108:=ap mixed (by kernel_rfl)
def ge:CC:=oX [oB 3 (.box ai true (oT 1)),oB 4 (.mv (oN 0))] [0,3] [] (oX [oA 5 0,oB 6 (.clo aZ [oT 3]),oZ 7 bS [oT 5,oT 6],oA 4 7] [4] [] (.ret))
def fU:List au:= [.tmp 4]
def qw:List Nat:= [3]
theorem ql:ay Tryz.prog ar qw ge fU 8:=ap mixed (by kernel_rfl)
def e9:CC:=oX [oB 2 (.box dV true (oT 0)),oB 3 (.mv (.const ob))] [1,2] [] (oX [oE 4 0 2,oC 5 1 4,oC 6 1 1,oB 7 (.eql false false [.str] (oT 5) (oT 6)),oA 3 7] [3] [] (.ret))
def eX:List au:= [.tmp 3]
def oU:List Nat:= [2]
theorem oO:ay Tryz.prog aZ oU e9 eX 8:=ap mixed (by kernel_rfl)
def gd:CC:=oX [oB 4 (.mv (oN 0))] [0,1] [] (.seq (oX [oA 5 1,oB 6 (.eql false false [.str] (oT 5) (oS ⟨#[]⟩))] [0,1,6] [] (.ite (oT 6) (oX [oA 7 0,oB 8 (.len (oT 7)),oB 9 (.arith .sub (oT 8) (oN 1)),oB 10 (.mm false [oN 0,oT 9]),oA 4 10] [4] [] (.ret)) (.skip))) (.keep [0,1] [] (oX [oA 11 0,oA 12 1,oZ 13 ar [oT 11,oT 12],oA 4 13] [4] [] (.ret))))
def fT:List au:= [.tmp 4]
def uR:List Nat:= []
theorem ur:ay Tryz.prog cF uR gd fT 14:=ap mixed (by kernel_rfl)
def cm:CC:=oX [oB 2 (.box aU true (oT 0)),oB 4 (.mv (.const ob))] [1,2] [] (.seq (oX [oE 5 0 2,oC 6 1 5] [1,2,6] [] (.block 0 (oX [oB 8 (.eql false false [.int] (oT 6) (oN 2)),oA 7 8] [1,2,6,7] [] (.ite (oT 7) (oX [oA 9 1,oE 10 1 2,oC 11 1 10,oZ 12 cF [oT 9,oT 11],oB 13 (.cmp .geq (oT 12) (oN 0)),oA 4 13] [4] [] (.ret)) (oX [
 oB 15 (.eql false false [.int] (oT 6) (oN 3)),oA 14 15] [1,2,6,14] [] (.ite (oT 14) (oX [oA 16 1,oE 17 1 2,oC 18 1 17,oZ 19 ar [oT 16,oT 18],oB 20 (.cmp .geq (oT 19) (oN 0)),oA 4 20] [4] [] (.ret)) (oX [oB 22 (.eql false false [.int] (oT 6) (oN 4)),oA 21 22] [1,2,6,21] [] (.ite (oT 21) (oX [oA 23 1,oE 24 1 2,oC 25 1 24,oZ 26 ar [oT 23,oT 25],
 oB 27 (.cmp .geq (oT 26) (oN 0)),oA 28 27,oH 29 28 (.mv (oT 1)),oH 30 28 (.faddr 2 (oT 2)),oH 31 28 (.load false 1 (oT 30)),oH 32 28 (.call ar [oT 29,oT 31]),oH 33 28 (.cmp .geq (oT 32) (oN 0)),oB 34 (.pick (oT 28) (oT 33) (.const ob)),oA 4 34] [4] [] (.ret)) (oX [oB 36 (.eql false false [.int] (oT 6) (oN 5)),oA 35 36] [2,35] [] (.ite (oT 35) (oX [oE 37 1 2,
 oC 38 1 37,oZ 39 dq [oT 38],oA 40 39,oH 41 40 (.faddr 2 (oT 2)),oH 42 40 (.load false 1 (oT 41)),oH 43 40 (.eql false false [.str] (oT 42) (oS ⟨#[]⟩)),oH 44 40 (.mv (oT 43)),oI 45 44 (.faddr 2 (oT 2)),oI 46 44 (.load false 1 (oT 45)),oI 47 44 (.call dq [oT 46]),oH 48 40 (.pick (oT 44) (.const (.bool true)) (oT 47)),
 oB 49 (.pick (oT 40) (oT 48) (.const ob)),oA 4 49] [4] [] (.ret)) (.skip))))))))))) (.keep [] [] (oX [oB 4 (.mv (.const (.bool true)))] [4] [] (.ret))))
def cg:List au:= [.tmp 4]
def uN:List Nat:= [2]
theorem um:ay Tryz.prog eM uN cm cg 50:=ap mixed (by kernel_rfl)
def cN:CC:=oX [oB 3 (.box aU true (oT 0)),oB 6 (.mv (oN 0))] [1,2,3] [] (.seq (oX [oD 7 7 3,oZ 8 eL [oT 7],oB 9 (.not (oT 8))] [1,2,3,9] [] (.ite (oT 9) (oX [oB 6 (.mv (oN 1))] [6] [] (.ret)) (.skip))) (.keep [1,2,3] [] (.seq (oX [oD 10 7 3,oA 11 1,oZ 12 eM [oT 10,oT 11],oB 13 (.not (oT 12))] [1,2,3,13] [] (.ite (oT 13) (oX [
 oB 6 (.mv (oN 4))] [6] [] (.ret)) (.skip))) (.keep [1,2,3] [] (.seq (oX [oE 14 0 3,oC 15 1 14] [1,2,3,15] [] (.block 0 (oX [oB 17 (.eql false false [.int] (oT 15) (oN 2)),oA 16 17] [1,2,3,15,16] [] (.ite (oT 16) (oX [oE 18 3 3,oC 19 1 18,oZ 20 jh [oT 19],oA 6 20] [6] [] (.ret)) (oX [oB 22 (.eql false false [.int] (oT 15) (oN 3)),
 oA 21 22] [1,2,3,15,21] [] (.ite (oT 21) (.seq (oX [oA 23 1,oA 24 1,oE 25 1 3,oC 26 1 25,oZ 27 ar [oT 24,oT 26],oB 28 (.iaddr 2 (oT 23) (oT 27)),oE 29 1 28,oC 30 1 29,oB 31 (.not (oT 30))] [3,31] [] (.ite (oT 31) (oX [oB 6 (.mv (oN 17))] [6] [] (.ret)) (.skip))) (.keep [3] [] (oX [oE 32 3 3,oC 33 1 32,oB 34 (.eql false false [.str] (oT 33) (oS ⟨#[]⟩)),oA 35 34,
 oI 36 35 (.faddr 3 (oT 3)),oI 37 35 (.load false 1 (oT 36)),oI 38 35 (.call fW [oT 37,oS ⟨#[124]⟩]),oB 39 (.pick (oT 35) (.const (.bool true)) (oT 38)),oA 40 39,oI 41 40 (.faddr 3 (oT 3)),oI 42 40 (.load false 1 (oT 41)),oI 43 40 (.call aR [oT 42]),oI 44 40 (.eql true false [.int] (oT 43) (oN 0)),
 oB 45 (.pick (oT 40) (.const (.bool true)) (oT 44))] [45] [] (.ite (oT 45) (oX [oB 6 (.mv (oN 14))] [6] [] (.ret)) (.skip))))) (oX [oB 47 (.eql false false [.int] (oT 15) (oN 5)),oA 46 47] [2,3,15,46] [] (.ite (oT 46) (oX [oE 48 3 3,oC 49 1 48,oZ 50 aR [oT 49],oB 51 (.eql true false [.int] (oT 50) (oN 0))] [51] [] (.ite (oT 51) (oX [oB 6 (.mv (oN 14))] [6] [] (.ret))
 (.skip))) (oX [oB 53 (.eql false false [.int] (oT 15) (oN 4)),oA 52 53] [2,3,52] [] (.ite (oT 52) (oX [oA 54 2,oE 55 4 3,oC 56 1 55,oZ 57 aL [oT 54,oT 56],oB 58 (.not (oT 57))] [58] [] (.ite (oT 58) (oX [oB 6 (.mv (oN 16))] [6] [] (.ret)) (.skip))) (.skip))))))))))) (.keep [] [] (oX [oB 6 (.mv (oN 0))] [6] [] (.ret))))))))
def cM:List au:= [.tmp 6]
def uS:List Nat:= [3]
theorem ut:ay Tryz.prog eN uS cN cM 59:=ap mixed (by kernel_rfl)
def gA:CC:=oX [oB 3 (.box aU true (oT 0)),oB 4 (.box zJ true (oT 1)),oB 5 (.box cZ true (oT 2)),oB 6 (.mv (oN 0))] [3,4,5] [] (.seq (oX [oD 10 7 3,oZ 11 aS [oT 10,oN 0,oN 1],oA 9 11,oB 12 (.ext (oT 9) 0),oB 13 (.ext (oT 9) 1),oA 7 12,oA 8 13] [3,4,5,7,8] [] (oX [oA 14 7,oB 15 (.cmp .gtr (oT 14) (oN 60)),oA 16 15,
 oI 17 16 (.mv (oT 8)),oI 18 16 (.cmp .gtr (oT 17) (oN 20)),oB 19 (.pick (oT 16) (.const (.bool true)) (oT 18))] [3,4,5,19] [] (.ite (oT 19) (oX [oB 6 (.mv (oN 2))] [6] [] (.ret)) (.skip)))) (.keep [3,4,5] [] (oX [oD 20 7 3,oB 21 (.clo bw [oT 4,oT 5]),oZ 22 aC [oT 20,oT 21],oA 6 22] [6] [] (.ret))))
def gt:List au:= [.tmp 6]
def ru:List Nat:= [5,4,3]
theorem ri:ay Tryz.prog bM ru gA gt 23:=ap mixed (by kernel_rfl)
def fC:CC:=oX [oB 3 (.box aU true (oT 0)),oB 4 (.mv (oN 0))] [1,2,3] [] (oX [oD 5 7 3,oC 6 1 1,oC 7 1 2,oZ 8 eN [oT 5,oT 6,oT 7],oA 4 8] [4] [] (.ret))
def fh:List au:= [.tmp 4]
def px:List Nat:= [3]
theorem pm:ay Tryz.prog bw px fC fh 9:=ap mixed (by kernel_rfl)
def gI:CC:=oX [oB 1 (.box aU true (oT 0)),oB 2 (.mv (.const ob))] [1] [] (oX [oE 3 0 1,oC 4 1 3,oB 5 (.eql false false [.int] (oT 4) (oN 4)),oA 6 5,oI 7 6 (.faddr 6 (oT 1)),oI 8 6 (.load false 1 (oT 7)),oI 9 6 (.call aF [oT 8,.func aQ]),oB 10 (.pick (oT 6) (.const (.bool true)) (oT 9)),oA 2 10] [2] [] (.ret))
def gG:List au:= [.tmp 2]
def wu:List Nat:= [1]
theorem v7:ay Tryz.prog aQ wu gI gG 11:=ap mixed (by kernel_rfl)
-- condition_loose range i=24 n=23 c=25 i2=35 id=0: live [2:, 3:out, 22:] changed [] res [2, 3, 33]
def dv:CC:=oX [oB 1 (.box aU true (oT 0)),oB 2 (.alloc aU [oi,oe,oe,oe,oe,ob,on])] [1,2] [2,33] (.seq (oX [oE 6 0 1,oC 7 1 6,oB 8 (.eql false false [.int] (oT 7) (oN 4)),oA 9 8,oI 10 9 (.faddr 0 (oT 1)),oI 11 9 (.load false 1 (oT 10)),oI 12 9 (.eql false false [.int] (oT 11) (oN 6)),oI 13 9 (.mv (oT 12)),oH 14 13 (.load true 7 (oT 1)),
 oH 15 13 (.call aQ [oT 14]),oI 16 9 (.pick (oT 13) (oT 15) (.const ob)),oB 17 (.pick (oT 9) (.const (.bool true)) (oT 16))] [1,2,17] [2,33] (.ite (oT 17) (oX [oB 18 (.build [oi,oe,oe,oe,oe,ob,on] [(0,1,oN 1)]),oF 7 2 18] [2] [2,33] (.ret)) (.skip))) (.keep [1,2] [2,33] (oX [oD 19 7 1,oB 3 (.alloc aU [oi,oe,oe,oe,oe,ob,on]),oF 7 3 19] [1,2,3] [2,3,33] (eC 5 (.reg [
 oE 20 6 3,.op none none (.store none 1 (oT 20) (.const on))]) (.keep [1,2,3] [2,3,33] (.seq (oX [oE 21 6 1,oC 22 1 21,oB 23 (.len (oT 22)),oB 24 (.mv (oN 0))] [2,3,22,23,24] [2,3,33] (aw 0 24 23 25 1 (oX [oB 26 (.iaddr 7 (oT 22) (oT 24)),oD 27 7 26,oB 5 (.alloc aU [oi,oe,oe,oe,oe,ob,on]),oF 7 5 27] [2,3,5,22,23,24] [2,3,5,33] (.regd [oE 28 6 3,oC 29 1 28,oD 30 7 5,
 oZ 31 bj [oT 30],oB 32 (.bslice aU 7 [oT 31])] [oB 33 (.append (some 33) aU 7 104 (oT 29) (oT 32)),oE 34 6 3,.op none none (.store (some 3) 1 (oT 34) (oT 33))])) 35)) (.keep [2,3] [2,3,33] (oX [oD 36 7 3,oF 7 2 36] [2] [2,33] (.ret)))))))))
def dn:List au:= [.cell 2 true 7]
def uO:List Nat:= [1,2034003,1033033]
theorem un:ay Tryz.prog bj uO dv dn 37:=ap mixed (by kernel_rfl)
def cn:CC:=oX [oB 3 (.box aY true (oT 0)),oB 6 (.mv (oS ⟨#[]⟩))] [1,2,3] [] (.seq (oX [oA 7 1,oB 8 (.cmp .lss (oT 7) (oN 0)),oA 9 8,oI 10 9 (.mv (oT 1)),oI 11 9 (.faddr 1 (oT 3)),oI 12 9 (.load false 1 (oT 11)),oI 13 9 (.len (oT 12)),oI 14 9 (.cmp .geq (oT 10) (oT 13)),oB 15 (.pick (oT 9) (.const (.bool true)) (oT 14)),oA 16 15,oI 17 16 (.mv (oT 2)),
 oI 18 16 (.cmp .lss (oT 17) (oN 0)),oB 19 (.pick (oT 16) (.const (.bool true)) (oT 18)),oA 20 19,oI 21 20 (.mv (oT 2)),oI 22 20 (.faddr 1 (oT 3)),oI 23 20 (.load false 1 (oT 22)),oI 24 20 (.mv (oT 1)),oI 25 20 (.iaddr 1 (oT 23) (oT 24)),oI 26 20 (.load false 1 (oT 25)),oI 27 20 (.len (oT 26)),oI 28 20 (.cmp .geq (oT 21) (oT 27)),
 oB 29 (.pick (oT 20) (.const (.bool true)) (oT 28))] [1,2,3,29] [] (.ite (oT 29) (oX [oB 6 (.mv (oS ⟨#[]⟩))] [6] [] (.ret)) (.skip))) (.keep [1,2,3] [] (oX [oE 30 1 3,oC 31 1 30,oA 32 1,oB 33 (.iaddr 1 (oT 31) (oT 32)),oC 34 1 33,oA 35 2,oB 36 (.iaddr 1 (oT 34) (oT 35)),oC 37 1 36,oA 6 37] [6] [] (.ret))))
def ci:List au:= [.tmp 6]
def uT:List Nat:= [3]
theorem uu:ay Tryz.prog cG uT cn ci 38:=ap mixed (by kernel_rfl)
def iT:CC:=oX [oB 3 (.box aY true (oT 0)),oB 4 (.box aU true (oT 1)),oB 5 (.box cq true (oT 2)),oB 6 (.mv (.const ob))] [3,4,5] [] (oX [oE 7 3 3,oC 8 1 7,oB 9 (.clo aW [oT 4,oT 5]),oZ 10 bT [oT 8,oT 9],oA 6 10] [6] [] (.ret))
def iJ:List au:= [.tmp 6]
def tB:List Nat:= [5,4,3]
theorem tt:ay Tryz.prog eh tB iT iJ 11:=ap mixed (by kernel_rfl)
def ca:CC:=oX [oB 3 (.box bN true (oT 0)),oB 4 (.mv (.const ob))] [1,2,3] [] (oX [oE 5 0 3,oC 6 1 5,oE 7 1 1,oC 8 1 7,oB 9 (.eql false false [.str] (oT 6) (oT 8)),oA 10 9,oH 11 10 (.faddr 1 (oT 3)),oH 12 10 (.load false 1 (oT 11)),oH 13 10 (.load false 1 (oT 2)),oH 14 10 (.cmp .leq (oT 12) (oT 13)),oB 15 (.pick (oT 10) (oT 14) (.const ob)),oA 16 15,
 oH 17 16 (.load false 1 (oT 2)),oH 18 16 (.faddr 2 (oT 3)),oH 19 16 (.load false 1 (oT 18)),oH 20 16 (.cmp .lss (oT 17) (oT 19)),oB 21 (.pick (oT 16) (oT 20) (.const ob)),oA 22 21,oH 23 22 (.faddr 2 (oT 1)),oH 24 22 (.load false 1 (oT 23)),oH 25 22 (.eql false false [.str] (oT 24) (oS ⟨#[]⟩)),oH 26 22 (.mv (oT 25)),oI 27 26 (.faddr 3 (oT 3)),oI 28 26 (.load false 1 (oT 27)),
 oI 29 26 (.faddr 2 (oT 1)),oI 30 26 (.load false 1 (oT 29)),oI 31 26 (.faddr 3 (oT 1)),oI 32 26 (.load false 1 (oT 31)),oI 33 26 (.build [oe,oe] [(0,1,oT 30),(1,1,oT 32)]),oI 34 26 (.call cW [oT 28,oT 33]),oH 35 22 (.pick (oT 26) (.const (.bool true)) (oT 34)),oB 36 (.pick (oT 22) (oT 35) (.const ob)),oA 4 36] [4] [] (.ret))
def bY:List au:= [.tmp 4]
def rr:List Nat:= [3]
theorem rh:ay Tryz.prog aW rr ca bY 37:=ap mixed (by kernel_rfl)
end Go.Gv
