/- A part of the framework and of the walks: C S1. -/
import Derived.Test.YtaiffcbkmgfklaaGreatDoorGs01
set_option linter.unusedSimpArgs false
set_option linter.unusedVariables false

namespace Go.Gv
inductive NE where
 | int | str | bool
inductive COp where
 | mv (x:Operand)
 | pick (c x y:Operand)
 | alloc (el:Nat) (z:List Value)
 | box (el:Nat) (im:Bool) (x:Operand)
 | tbx (el:Nat) (x:Operand)
 | build (z:List Value) (parts:List (Nat×Nat×Operand))
 | bslice (el n:Nat) (parts:List Operand)
 | nslice (el n:Nat)
 | mslice (el n:Nat) (parts:List Operand)
 | load (agg:Bool) (sz:Nat) (x:Operand)
 | store (rt:Option Nat) (sz:Nat) (x y:Operand)
 | nilck (x:Operand)
 | arith (op:BinOp) (x y:Operand)
 | cmp (op:BinOp) (x y:Operand)
 | eql (neg agg:Bool) (ks:List NE) (x y:Operand)
 | scat (x y:Operand)
 | not (x:Operand)
 | neg (x:Operand)
 | conv (k:IntKind) (x:Operand)
 | clo (f:Nat) (caps:List Operand)
 | mkslice (el n bytes:Nat) (agg:Bool) (z:List Value) (l c:Operand)
 | slice (n:Nat) (x:Operand) (lo hi:Option Operand)
 | sslice (x:Operand) (lo hi:Option Operand)
 | faddr (off:Nat) (x:Operand)
 | fld (agg:Bool) (sz off:Nat) (x:Operand)
 | iaddr (n:Nat) (x i:Operand)
 | sidx (x i:Operand)
 | ext (x:Operand) (i:Nat)
 | len (x:Operand)
 | slen (x:Operand)
 | mm (mx:Bool) (xs:List Operand)
 | append (rt:Option Nat) (el n bytes:Nat) (x y:Operand)
 | appmk (el n bytes:Nat) (agg:Bool) (z:List Value) (x c:Operand)
 | clear (n:Nat) (agg:Bool) (z:List Value) (x:Operand)
 | copy (n:Nat) (x y:Operand)
 | cap (x:Operand)
 | srange (x:Operand)
 | snext (x:Operand)
 | sbytes (x:Operand)
 | bstr (x:Operand)
 | mkif (t:Nat) (x:Operand)
 | bad
 | call (f:Nat) (args:List Operand)
 | callv (f:Operand) (args:List Operand)
 | callb (r f:Nat) (args:List Operand)
def tb:Value→D
 | .bool b=> .v (.bool b)
 | .int k n=> .v (.int k n)
 | .string s=> .v (.string s)
 | .pointer a=> .v (.pointer a)
 | .slice a l c=> .v (.slice a l c)
 | .nilFunc=> .v .nilFunc
 | _=> .any
def ev (σ:Sg):Operand→D
 | .tmp t=> σ t
 | .const x=> tb x
 | .global g=> .v (.pointer (some ⟨g,0,none⟩))
 | .func f=> .clo f []
def uR:Operand→Bool
 | .const (.string s)=> decide (s.size≤1000000)
 | _=> true
def fw (P:Program) (t:TypeId):Option Nat:=(P.info? t).map (·.size)
def rP (P:Program) (t:TypeId):Option Bool:=
 match P.underlying t with
 | some (.struct _) | some (.array _ _)=> some true
 | some _=> some false
 | none=> none
def iE (P:Program) (t:TypeId):Option (List Value):=do
 let i ←P.info? t
 let z ←i.zero
 if z.cells.toList.all (·.oneCell') && z.cells.size==i.size && z.cells.toList.all (fun x=> match x with | .string s=> decide (s.size≤1000000) | .bool _ | .int _ _ | .pointer _ | .slice _ _ _ | .nilFunc=> true | _=> false) then some z.cells.toList else none
def na (P:Program) (t:TypeId):Option NE:=
 match P.underlying t with
 | some (.int _)=> some .int
 | some .string=> some .str
 | some .bool=> some .bool
 | _=> none
def uo (P:Program) (t:TypeId):Option (List NE):=
 match P.underlying t with
 | some (.struct fs)=>
   if !P.stoodInHeld t && !P.eqGuardType P.depth t && decide (fs.toList.map (·.offset) = List.range' 0 fs.toList.length) && fs.toList.all (fun f => decide (f.name ≠ "_")) then fs.toList.mapM (fun f => na P f.type) else none
 | _=> none
def mq (P:Program) (neg:Bool) (t:TypeId) (x y:Operand):Option COp:=
 match na P t with
 | some k=> some (.eql neg false [k] x y)
 | none=> (uo P t).map fun ks=> .eql neg true ks x y
def sy (parts:Array (Nat×Operand)) (n:Nat):Option (List Operand):=
 if parts.toList.map (·.1)=List.range n then some (parts.toList.map (·.2)) else none
def Va (im:List Nat) (d:Option Nat):Bool:=d.any im.contains
def qbn (im:List Nat) (d:Option Nat):Bool:=d.any fun d=> im.contains (d+100000)
def Wz (im:List Nat) (d:Option Nat):Bool:=d.any fun d=> im.contains (d+200000)
def YX (im:List Nat) (d:Option Nat):Option Nat:=d.bind fun d=> (im.find? fun c=> c/1000=1000+d).map fun c=> c % 1000
def YW (im:List Nat) (x:Operand):Option Nat:=match x with
 | .tmp t=> (im.find? fun c=> c/1000=2000+t).map fun c=> c % 1000
 | _=> none
def Qo (im:List Nat) (d:Option Nat):Option Nat:=d.bind fun d=> (im.find? fun c=> c/1000=3000+d).map fun c=> c % 1000
def Pd (b:Option Nat) (f:Nat) (args:List Operand):COp:=match b with
 | none=> .call f args
 | some r=> .callb r f args
def X4 (im:List Nat):Bool:=im.contains 300000
def dW:Nat:=1000000007
def OK (P:Program) (t:TypeId):Bool:=match P.underlying t with | some (.int _)=> true | _=> false
def eN (P:Program) (im:List Nat) (o:Oper):Option COp:=
 if !o.op.operands.toList.all uR then none else
 match o.op with
 | .move x | .assign x=> some (.mv x)
 | .pick c x y=> some (.pick c x y)
 | .alloc el=> do some (.alloc el (←iE P el))
 | .box el x=> if Wz im o.dst then some (.tbx el x) else some (.box el (Va im o.dst) x)
 | .build t parts=> do
   let z ←iE P t
   match P.underlying t with
   | some (.struct fs)=>
     let ps ←parts.toList.mapM fun p=> do
      let f ←fs[p.1]?
      let sz ←fw P f.type
      if f.offset+sz≤z.length then some (f.offset,sz,p.2) else none
     if fs.toList.all (fun f=> (fw P f.type).isSome) then some (.build z ps) else none
   | some (.array _ el)=>
     let sz ←fw P el
     let ps ←parts.toList.mapM fun p=> if p.1*sz+sz≤z.length then some (p.1*sz,sz,p.2) else none
     some (.build z ps)
   | _=> none
 | .buildSlice t len parts=> do
   match P.underlying t with
   | some (.slice el)=>
     let n ←fw P el
     let _ ←iE P el
     let ps ←sy parts len
     if len*n≤2^24 && 0 < n then(if len=0 then some (.nslice el n) else if qbn im o.dst then some (.mslice el n ps) else some (.bslice el n ps)) else none
   | _=> none
 | .load t x=> do
   let agg ←rP P t
   let sz ←fw P t
   if agg || sz=1 then some (.load agg sz x) else none
 | .store t x y=> do some (.store (YW im x) (←fw P t) x y)
 | .nilCheck x=> some (.nilck x)
 | .binOp op t x y _=>
   match op with
   | .add=> if OK P t then some (.arith .add x y) else match P.underlying t with | some .string=> some (.scat x y) | _=> none
   | .sub | .mul | .quo | .rem=> if OK P t then some (.arith op x y) else none
   | .lss | .leq | .gtr | .geq=> if OK P t then some (.cmp op x y) else match P.underlying t with | some .string=> some (.cmp op x y) | _=> none
   | .eql=> mq P false t x y
   | .neq=> mq P true t x y
   | _=> none
 | .unOp .not _ x=> some (.not x)
 | .unOp .neg _ x=> some (.neg x)
 | .convert s t x=>
   match P.underlying s,P.underlying t with
   | some (.int _),some (.int k)=> some (.conv k x)
   | some .string,some (.slice el)=> match P.underlying el with
     | some (.int .u8)=> some (.sbytes x)
     | _=> none
   | some (.slice el),some .string=> match P.underlying el with
     | some (.int .u8)=> some (.bstr x)
     | _=> none
   | _,_=> none
 | .makeFunc (.func f) first caps=> if first.isEmpty then some (.clo f caps.toList) else none
 | .makeSlice t l c=> do
   match P.underlying t with
   | some (.slice el)=>
     let n ←fw P el
     let z ←iE P el
     let b:=P.bytesOf el
     let agg ←rP P el
     if 0 < n && (agg || n=1) then some (.mkslice el n b agg z l c) else none
   | _=> none
 | .slice t x lo hi none=>
   match P.underlying t with
   | some (.slice el)=> do some (.slice (←fw P el) x lo hi)
   | some .string=> some (.sslice x lo hi)
   | _=> none
 | .fieldAddr t x f=> do
   match P.underlying t with
   | some (.struct fs)=>
     let fd ←fs[f]?
     let sz ←fw P fd.type
     if 0 < sz then some (.faddr fd.offset x) else none
   | _=> none
 | .field t x f=> do
   match P.underlying t with
   | some (.struct fs)=>
     let fd ←fs[f]?
     let agg ←rP P fd.type
     let sz ←fw P fd.type
     if agg || sz=1 then some (.fld agg sz fd.offset x) else none
   | _=> none
 | .indexAddr t x i=> do
   match P.underlying t with
   | some (.slice el)=> some (.iaddr (←fw P el) x i)
   | some (.array len el)=> match i with
     | .const (.int .i64 k)=> do
       let sz ←fw P el
       if 0≤k∧k < len then some (.faddr (k.toNat*sz) x) else none
     | _=> none
   | _=> none
 | .index t x i=>
   match P.underlying t with
   | some .string=> some (.sidx x i)
   | _=> none
 | .extract x i=> some (.ext x i)
 | .range t x=> match P.underlying t with
   | some .string=> some (.srange x)
   | _=> none
 | .next x true=> some (.snext x)
 | .makeInterface t x=> if X4 im then(match P.underlying t with | some (.struct _)=> some (.mkif t x) | _=> none) else some .bad
 | .panic x=> if X4 im && decide (P.funcs.size≤dW) then some (.call dW [x]) else some .bad
 | .call c=>
   match c.callee with
   | .value (.func f)=> if f=dW then none else some (Pd (Qo im o.dst) f c.args.toList)
   | .value f=> some (.callv f c.args.toList)
   | .builtin .len=> match c.argTypes.toList,c.args.toList with
     | [t], [x]=> match P.underlying t with | some (.slice _)=> some (.len x) | some .string=> some (.slen x) | _=> none
     | _,_=> none
   | .builtin .min=> some (.mm false c.args.toList)
   | .builtin .max=> some (.mm true c.args.toList)
   | .builtin .append=> match c.argTypes.toList,c.args.toList with
     | [t,u], [x,y]=> if t=u then(match P.underlying t with
       | some (.slice el)=> do
         let n ←fw P el
         let _ ←iE P el
         if 0 < n then some (.append (YX im o.dst) el n (P.bytesOf el) x y) else none
       | _=> none) else(match P.underlying t,P.underlying u with
       | some (.slice el),some (.int _)=> do
         let n ←fw P el
         let z ←iE P el
         let agg ←rP P el
         if 0 < n && (agg || n=1) then some (.appmk el n (P.bytesOf el) agg z x y) else none
       | _,_=> none)
     | _,_=> none
   | .builtin .clear=> match c.argTypes.toList,c.args.toList with
     | [t], [x]=> match P.underlying t with
       | some (.slice el)=> do
         let n ←fw P el
         let z ←iE P el
         let agg ←rP P el
         if 0 < n && (agg || n=1) then some (.clear n agg z x) else none
       | _=> none
     | _,_=> none
   | .builtin .copy=> match c.argTypes.toList,c.args.toList with
     | [t,u], [x,y]=> if t=u then(match P.underlying t with
       | some (.slice el)=> do
         let n ←fw P el
         if 0 < n then some (.copy n x y) else none
       | _=> none) else none
     | _,_=> none
   | .builtin .cap=> match c.argTypes.toList,c.args.toList with
     | [t], [x]=> match P.underlying t with | some (.slice _)=> some (.cap x) | _=> none
     | _,_=> none
   | _=> none
 | _=> none
abbrev PT:=Nat→List D→ae→(D→ae→Prop)→Prop
structure PC where
 pre:List D→Prop
 post:List D→D→Prop
def uD (A:PT):Prop:= ∀ (d:Nat) (ds:List D) (H:ae) (K K':D→ae→Prop),(∀r H,K r H→K' r H)→A d ds H K→A d ds H K'
inductive Spc where
 | none
 | pure (c:PC)
 | gen (A:PT) (h:uD A)
def Spc.pt:Spc→PT
 | .none=> fun _ _ _ _=> False
 | .pure c=> fun _ ds H K=> c.pre ds∧ ∀r,c.post ds r→K r H
 | .gen A _=> A
def InR:IntKind→Int→Prop
 | .i64,n=> -9223372036854775808≤n∧n≤9223372036854775807
 | .i32,n=> -2147483648≤n∧n≤2147483647
 | .i16,n=> -32768≤n∧n≤32767
 | .i8,n=> -128≤n∧n≤127
 | .u64,n=> 0≤n∧n≤18446744073709551615
 | .u32,n=> 0≤n∧n≤4294967295
 | .u16,n=> 0≤n∧n≤65535
 | .u8,n=> 0≤n∧n≤255
theorem InR.wrap {k:IntKind} {n:Int} (h:InR k n):k.wrap n=n:=by
 cases k <;> simp only[InR] at h <;> simp[IntKind.wrap,IntKind.bits,IntKind.signed] <;> omega
def ni (op:BinOp) (k:IntKind) (a b:Int) (K:D→Prop):Prop:=
 match op with
 | .add=> InR k (a+b)∧K (.v (.int k (a+b)))
 | .sub=> InR k (a -b)∧K (.v (.int k (a -b)))
 | .mul=> InR k (a*b)∧K (.v (.int k (a*b)))
 | .quo=> b≠0∧InR k (a.tdiv b)∧K (.v (.int k (a.tdiv b)))
 | .rem=> b≠0∧K (.v (.int k (a.tmod b)))
 | _=> False
def Nh (op:BinOp) (a b:Int):Option Bool:=
 match op with
 | .lss=> some (decide (a < b))
 | .leq=> some (decide (a≤b))
 | .gtr=> some (decide (b < a))
 | .geq=> some (decide (b≤a))
 | _=> none
def ZQ (op:BinOp) (a b:ByteArray):Option Bool:=
 match op with
 | .lss=> some (Op.bytesLess a.toList b.toList)
 | .leq=> some (Op.bytesLess a.toList b.toList || a.toList==b.toList)
 | .gtr=> some (!(Op.bytesLess a.toList b.toList || a.toList==b.toList))
 | .geq=> some (!Op.bytesLess a.toList b.toList)
 | _=> none
def WJ:List D→Option (List Value)
 | []=> some []
 | .v x::l=> (WJ l).map (x:: ·)
 | _=> none
def vj:D→Option (IntKind×Int)
 | .v (.int k n)=> some (k,n)
 | _=> none
def qec:D→Option ByteArray
 | .v (.string s)=> some s
 | _=> none
def qed:D→Option Bool
 | .v (.bool b)=> some b
 | _=> none
def Sn (k:NE) (d e:D):Option Bool:=
 match k with
 | .int=> (vj d).bind fun p=> (vj e).bind fun q=> if p.1=q.1 then some (decide (p.2=q.2)) else none
 | .str=> (qec d).bind fun p=> (qec e).bind fun q=> some (decide (p=q))
 | .bool=> (qed d).bind fun p=> (qed e).bind fun q=> some (decide (p=q))
def Xz:List NE→List D→List D→Option Bool
 | [],as,bs=> if as.isEmpty && bs.isEmpty then some true else none
 | k::ks,as,bs=> as.head?.bind fun a=> bs.head?.bind fun b=> (Sn k a b).bind fun p=> (Xz ks as.tail bs.tail).bind fun q=> some (p && q)
def AM:D→Option (List D)
 | .agg cs=> some cs
 | _=> none
def Zv (agg:Bool) (ks:List NE) (a b:D):Option Bool:=
 if agg then(AM a).bind fun as=> (AM b).bind fun bs=> Xz ks as bs
 else match ks with
  | [k]=> Sn k a b
  | _=> none
def yp (lo hi:Option (Option (IntKind×Int))) (len:Nat) (K:Nat→Nat→Prop):Prop:=
 match lo,hi with
 | none,none=> K 0 len
 | some (some (_,l)),none=> 0≤l∧l≤len∧K l.toNat len
 | none,some (some (_,h))=> 0≤h∧h≤len∧K 0 h.toNat
 | some (some (_,l)),some (some (_,h))=> 0≤l∧l≤h∧h≤len∧K l.toNat h.toNat
 | _,_=> False
def VV (agg:Bool) (z:List Value):D:=if agg then .agg (z.map tb) else tb (z.headD (.bool false))
def setAt (l:List D) (off:Nat) (new:List D):List D:=l.take off++new++l.drop (off+new.length)
def KF (agg:Bool) (sz:Nat) (cs:List D) (off:Nat):D:=if agg then .agg ((cs.drop off).take sz) else(cs[off]?).getD .any
def kN (σ:Sg):List (Nat×Nat×Operand)→List D→(List D→Prop)→Prop
 | [],cs,K=> K cs
 | (off,sz,x)::r,cs,K=> (ev σ x).kn=true∧(ev σ x).cells.length=sz∧kN σ r (setAt cs off (ev σ x).cells) K
def lS (n:Nat):List D→Prop
 | []=> True
 | d::r=> d.kn=true∧d.cells.length=n∧lS n r
def Lb:D→Option UInt8
 | .v (.int .u8 n)=> some (UInt8.ofNat n.toNat)
 | _=> none
def XM (es:List D):Bool:=es.all fun d=> (Lb d).isSome
def XL (es:List D):ByteArray:=⟨(es.map fun d=> (Lb d).getD 0).toArray⟩
def aJ (c:COp) (σ:Sg) (H:ae) (K:D→Prop):Prop:=
 match c with
 | .mv x=> K (ev σ x)
 | .pick c x y=> match ev σ c with
   | .v (.bool t)=> (t=true→K (ev σ x))∧(t=false→K (ev σ y))
   | _=> False
 | .box _ true x=> (ev σ x).kn=true∧K (.cptr (ev σ x).cells 0)
 | .build z parts=> kN σ parts (z.map tb) fun cs=> K (.agg cs)
 | .bslice _ n ps=> lS n (ps.map (ev σ))∧K (.list n (ps.map (ev σ)))
 | .load agg sz x=> match ev σ x with
   | .cptr cs off=> off+sz≤cs.length∧K (KF agg sz cs off)
   | .bptr id b off=> match H id with
     | some (.box b' cells)=> b'=b∧off+sz≤cells.length∧K (KF agg sz cells off)
     | _=> False
   | .eptr id x n i off=> match H id with
     | some (.row x' _ n' es)=> x'=x∧n'=n∧off+sz≤n∧i < es.length∧ ∀d,es[i]?=some d→K (KF agg sz d.cells off)
     | _=> False
   | _=> False
 | .nilck x=> match ev σ x with
   | .cptr cs off=> K (.cptr cs off)
   | .bptr id b off=> K (.bptr id b off)
   | .eptr id x n i off=> K (.eptr id x n i off)
   | .tape L=> K (.tape L)
   | .clo f caps=> K (.clo f caps)
   | _=> False
 | .arith op x y=> match ev σ x,ev σ y with
   | .v (.int k a), .v (.int k' b)=> k=k'∧ni op k a b K
   | _,_=> False
 | .cmp op x y=> match ev σ x,ev σ y with
   | .v (.int k a), .v (.int k' b)=> k=k'∧(match Nh op a b with | some t=> K (.v (.bool t)) | none=> False)
   | .v (.string a), .v (.string b)=> match ZQ op a b with | some t=> K (.v (.bool t)) | none=> False
   | _,_=> False
 | .eql neg agg ks x y=> match Zv agg ks (ev σ x) (ev σ y) with
   | some p=> K (.v (.bool (if neg then !p else p)))
   | none=> False
 | .scat x y=> match ev σ x,ev σ y with
   | .v (.string a), .v (.string b)=> a.size+b.size≤1000000000∧K (.v (.string (a++b)))
   | _,_=> False
 | .not x=> match ev σ x with
   | .v (.bool b)=> K (.v (.bool (!b)))
   | _=> False
 | .neg x=> match ev σ x with
   | .v (.int k n)=> InR k (0 -n)∧K (.v (.int k (0 -n)))
   | _=> False
 | .conv k x=> match ev σ x with
   | .v (.int _ n)=> K (.v (.int k (k.wrap n)))
   | _=> False
 | .clo f caps=> K (.clo f (caps.map (ev σ)))
 | .slice n x lo hi=> match ev σ x with
   | .list n' es=> n'=n∧(match lo.map (fun o=> vj (ev σ o)),hi.map (fun o=> vj (ev σ o)) with
     | none,none=> K (.list n es)
     | some (some (_,l)),none=> 0≤l∧l≤es.length∧K (.list n (es.drop l.toNat))
     | none,some (some (_,h))=> 0≤h∧h≤es.length∧K (.list n (es.take h.toNat))
     | some (some (_,l)),some (some (_,h))=> 0≤l∧l≤h∧h≤es.length∧K (.list n ((es.take h.toNat).drop l.toNat))
     | _,_=> False)
   | .own id x=> match H id with
     | some (.row x' _ n' es)=> x'=x∧n'=n∧yp (lo.map fun o=> vj (ev σ o)) (hi.map fun o=> vj (ev σ o)) es.length fun l h=> K (.sub id x n l h)
     | _=> False
   | .sub id x n' a b=> n'=n∧yp (lo.map fun o=> vj (ev σ o)) (hi.map fun o=> vj (ev σ o)) (b -a) fun l h=> K (.sub id x n (a+l) (a+h))
   | .v (.slice none 0 0)=> yp (lo.map fun o=> vj (ev σ o)) (hi.map fun o=> vj (ev σ o)) 0 fun _ _=> K (.v (.slice none 0 0))
   | _=> False
 | .sslice x lo hi=> match ev σ x with
   | .v (.string s)=> (match lo.map (fun o=> vj (ev σ o)),hi.map (fun o=> vj (ev σ o)) with
     | none,none=> K (.v (.string (s.extract 0 s.size)))
     | some (some (_,l)),none=> 0≤l∧l≤s.size∧K (.v (.string (s.extract l.toNat s.size)))
     | none,some (some (_,h))=> 0≤h∧h≤s.size∧K (.v (.string (s.extract 0 h.toNat)))
     | some (some (_,l)),some (some (_,h))=> 0≤l∧l≤h∧h≤s.size∧K (.v (.string (s.extract l.toNat h.toNat)))
     | _,_=> False)
   | _=> False
 | .faddr off x=> match ev σ x with
   | .cptr cs o=> K (.cptr cs (o+off))
   | .bptr id b o=> K (.bptr id b (o+off))
   | .eptr id x n i o=> K (.eptr id x n i (o+off))
   | _=> False
 | .fld agg sz off x=> match ev σ x with
   | .agg cs=> off+sz≤cs.length∧K (KF agg sz cs off)
   | _=> False
 | .iaddr n x i=> match ev σ i with
   | .v (.int _ k)=> match ev σ x with
     | .list n' es=> n'=n∧0≤k∧k < es.length∧ ∀d,es[k.toNat]?=some d→K (.cptr d.cells 0)
     | .own id x=> match H id with
       | some (.row x' _ n' es)=> x'=x∧n'=n∧0≤k∧k < es.length∧K (.eptr id x n k.toNat 0)
       | _=> False
     | .sub id x n' lo hi=> n'=n∧0≤k∧k < (hi -lo:Nat)∧K (.eptr id x n (lo+k.toNat) 0)
     | _=> False
   | _=> False
 | .sidx x i=> match ev σ i with
   | .v (.int _ k)=> match ev σ x with
     | .v (.string s)=> 0≤k∧k < s.size∧ ∀c,s.data[k.toNat]?=some c→K (.v (.int .u8 c.toNat))
     | _=> False
   | _=> False
 | .ext x i=> match ev σ x with
   | .tup ds=> match ds[i]? with
     | some d=> K d
     | none=> False
   | _=> False
 | .len x=> match ev σ x with
   | .list _ es=> (es.length:Int)≤9223372036854775807→K (.v (.int .i64 es.length))
   | .own id x=> match H id with
     | some (.row x' _ _ es)=> x'=x∧((es.length:Int)≤9223372036854775807→K (.v (.int .i64 es.length)))
     | _=> False
   | .v (.slice _ n _)=> K (.v (.int .i64 n))
   | .sub _ _ _ lo hi=> ((hi -lo:Nat):Int)≤9223372036854775807→K (.v (.int .i64 (hi -lo:Nat)))
   | _=> False
 | .cap x=> match ev σ x with
   | .v (.slice none 0 0)=> K (.v (.int .i64 0))
   | _=> False
 | .sbytes x=> match ev σ x with
   | .v (.string s)=> K (.list 1 (s.data.toList.map fun c=> .v (.int .u8 c.toNat)))
   | _=> False
 | .bstr x=> match ev σ x with
   | .own id x=> match H id with
     | some (.row x' _ n es)=> x'=x∧n=1∧XM es=true∧K (.v (.string (XL es)))
     | _=> False
   | .v (.slice none 0 0)=> K (.v (.string ⟨#[]⟩))
   | _=> False
 | .mkif t x=> match ev σ x with
   | .agg cs=> match WJ cs with
     | some xs=> K (.v (.iface t (.agg xs.toArray)))
     | none=> False
   | _=> False
 | .slen x=> match ev σ x with
   | .v (.string s)=> (s.size:Int)≤9223372036854775807→K (.v (.int .i64 s.size))
   | _=> False
 | .mm mx [x,y]=> match ev σ x,ev σ y with
   | .v (.int k a), .v (.int k' b)=> k=k'∧K (.v (.int k (if mx then max a b else min a b)))
   | _,_=> False
 | .mm mx [x,y,z]=> match ev σ x,ev σ y,ev σ z with
   | .v (.int k a), .v (.int k' b), .v (.int k'' c)=> k=k'∧k=k''∧K (.v (.int k (if mx then max (max a b) c else min (min a b) c)))
   | _,_,_=> False
 | _=> False
def mK (n:Nat) (d:D) (H:ae) (K:List D→Prop):Prop:=
 match d with
 | .list n' es=> n'=n∧K es
 | .own id x=> match H id with
   | some (.row x' _ n' es)=> x'=x∧n'=n∧K es
   | _=> False
 | .v (.slice none 0 0)=> K []
 | .sub id x n' lo hi=> match H id with
   | some (.row x' _ n'' es)=> x'=x∧n'=n∧n''=n∧K ((es.take hi).drop lo)
   | _=> False
 | _=> False
def dD (c:COp) (dst:Option Nat) (σ:Sg) (H:ae) (K:D→ae→Prop):Prop:=
 match c with
 | .alloc _ z=> match dst with
   | some t=> ∀b,K (.bptr t b 0) (aq H t (some (.box b (z.map tb))))
   | none=> False
 | .box _ false x=> match dst with
   | some t=> (ev σ x).kn=true∧ ∀b,K (.bptr t b 0) (aq H t (some (.box b (ev σ x).cells)))
   | none=> False
 | .tbx el x=> match dst with
   | some t=> (ev σ x).kn=true∧ ∀b,K (.bptr t b 0) (aq H t (some (.tbox el b (ev σ x).cells)))
   | none=> False
 | .nslice el n=> match dst with
   | some t=> ∀x,K (.own t x) (aq H t (some (.row x el n [])))
   | none=> False
 | .mslice el n ps=> match dst with
   | some t=> lS n (ps.map (ev σ))∧ ∀x,K (.own t x) (aq H t (some (.row x el n (ps.map (ev σ)))))
   | none=> False
 | .mkslice el n bytes agg z l c=> match dst with
   | some t=> match vj (ev σ l),vj (ev σ c) with
     | some (_,l),some (_,c)=> 0≤l∧l≤c∧bytes*c≤140737488355328∧c≤140737488355328∧ ∀x,K (.own t x) (aq H t (some (.row x el n (List.replicate l.toNat (if agg then .agg (z.map tb) else tb (z.headD (.bool false)))))))
     | _,_=> False
   | none=> False
 | .store _ sz x y=> (ev σ y).kn=true∧(ev σ y).cells.length=sz∧match ev σ x with
   | .bptr id b off=> match H id with
     | some (.box b' cells)=> b'=b∧off+sz≤cells.length∧K .undef (aq H id (some (.box b' (setAt cells off (ev σ y).cells))))
     | _=> False
   | .eptr id x n i off=> match H id with
     | some (.row x' el n' es)=> x'=x∧n'=n∧0 < n∧off+sz≤n∧i < es.length∧ ∀d,es[i]?=some d→
        K .undef (aq H id (some (.row x' el n' (es.set i (if off=0∧sz=n then ev σ y else .agg (setAt d.cells off (ev σ y).cells))))))
     | _=> False
   | _=> False
 | .srange x=> match dst,ev σ x with
   | some t, .v (.string s)=> ∀b,K (.bptr t b 0) (aq H t (some (.iter b s 0)))
   | _,_=> False
 | .snext x=> match ev σ x with
   | .bptr id b off=> off=0∧match H id with
     | some (.iter b' s pos)=> b'=b∧(pos < s.size→K (.tup [.v (.bool true), .v (.int .i64 pos), .v (.int .i32 (Utf8.decode s pos).1)]) (aq H id (some (.iter b' s (pos+ (Utf8.decode s pos).2)))))∧(¬pos < s.size→K (.tup [.v (.bool false)]) H)
     | _=> False
   | _=> False
 | .append _ el n bytes x y=> mK n (ev σ y) H fun es2=> match ev σ x with
   | .own id x=> match H id with
     | some (.row x' el' n' es)=> x'=x∧el'=el∧n'=n∧(es.length+es2.length) *bytes≤140737488355328∧es.length+es2.length≤140737488355328∧ ∀v,K (.own id v) (aq H id (some (.row v el n (es++es2))))
     | _=> False
   | .v (.slice none 0 0)=> match dst with
     | some t=> es2.length*bytes≤140737488355328∧es2.length≤140737488355328∧ ∀v,K (.own t v) (aq H t (some (.row v el n es2)))
     | none=> False
   | .sub id x n' lo hi=> match H id with
     | some (.row x' el' n'' es)=> x'=x∧el'=el∧n'=n∧n''=n∧lo=0∧(hi+es2.length) *bytes≤140737488355328∧hi+es2.length≤140737488355328∧ ∀v,K (.own id v) (aq H id (some (.row v el n (es.take hi++es2))))
     | _=> False
   | _=> False
 | .appmk el n bytes agg z x c=> match ev σ x with
   | .v (.slice none 0 0)=> match dst,vj (ev σ c) with
     | some t,some (_,c)=> 0≤c∧c*bytes≤140737488355328∧c≤140737488355328∧ ∀v,K (.own t v) (aq H t (some (.row v el n (List.replicate c.toNat (VV agg z)))))
     | _,_=> False
   | _=> False
 | .clear n agg z x=> match ev σ x with
   | .own id x=> match H id with
     | some (.row x' el n' es)=> x'=x∧n'=n∧K (.tup []) (aq H id (some (.row x' el n' (List.replicate es.length (VV agg z)))))
     | _=> False
   | .sub id x n' lo hi=> match H id with
     | some (.row x' el n'' es)=> x'=x∧n'=n∧n''=n∧K (.tup []) (aq H id (some (.row x' el n'' (es.take lo++List.replicate (hi -lo) (VV agg z) ++es.drop hi))))
     | _=> False
   | .v (.slice none 0 0)=> K (.tup []) H
   | _=> False
 | .copy n x y=> mK n (ev σ y) H fun src=> match ev σ x with
   | .own id x=> match H id with
     | some (.row x' el n' es)=> x'=x∧n'=n∧K (.v (.int .i64 (min src.length es.length:Nat))) (aq H id (some (.row x' el n' (src.take es.length++es.drop src.length))))
     | _=> False
   | .sub id x n' lo hi=> match H id with
     | some (.row x' el n'' es)=> x'=x∧n'=n∧n''=n∧K (.v (.int .i64 (min src.length (hi -lo):Nat))) (aq H id (some (.row x' el n'' (es.take lo++src.take (hi -lo) ++es.drop (lo+min src.length (hi -lo))))))
     | _=> False
   | _=> False
 | c=> aJ c σ H fun d=> K d H
end Go.Gv
namespace Go.Gv
def COp.isCall:COp→Bool
 | .call _ _ | .callv _ _ | .callb _ _ _=> true
 | _=> false
def COp.isRead:COp→Bool
 | .call _ _ | .callv _ _ | .callb _ _ _ | .alloc _ _ | .box _ false _ | .tbx _ _ | .nslice _ _ | .mslice .. | .mkslice .. | .store .. | .append .. | .appmk .. | .clear .. | .copy .. | .srange .. | .snext .. => false
 | _=> true
@[simp] theorem Nm (b:Option Nat) (f:Nat) (args:List Operand): (Pd b f args).isCall=true:=by cases b <;> rfl
@[simp] theorem Nl (b:Option Nat) (f:Nat) (args:List Operand): (Pd b f args).isRead=false:=by cases b <;> rfl
end Go.Gv

namespace Go.Gv
def Good (P:Program) (o:Oper) (a:Act) (tp I:Nat→Prop) (w:World) (K:D→Prop):Prop:=
 ∃x d,(execOp a.eval o).run P w= .ok (.value x) w∧R tp I w x d∧K d
section
variable {P:Program} {o:Oper} {a:Act} {tp I:Nat→Prop} {w:World} {σ:Sg} {K:D→Prop}
theorem R.inv_v {x y:Value} (h:R tp I w x (.v y)):x=y:=by cases h;rfl
theorem R.inv_agg {x:Value} {cs:List D} (h:R tp I w x (.agg cs)): ∃xs:List Value,x= .agg xs.toArray∧xs.length=cs.length∧cO (R tp I w) xs cs:=by
 cases h with
 | agg xs cs hl h1 h=> exact⟨xs,rfl,hl,fun k y c hy hc=> ⟨h1 y (List.mem_of_getElem? hy),h k y c hy hc⟩⟩
theorem R.int (k:IntKind) (n:Int):R tp I w (.int k n) (.v (.int k n)):= .v _ rfl (fun s h=> by cases h)
theorem R.bool (b:Bool):R tp I w (.bool b) (.v (.bool b)):= .v _ rfl (fun s h=> by cases h)
theorem R.str (s:ByteArray) (h:s.size≤maxLen):R tp I w (.string s) (.v (.string s)):= .v _ rfl (fun s' h'=> by cases h';exact h)
theorem R.inv_str {x:Value} {s:ByteArray} (h:R tp I w x (.v (.string s))):x= .string s∧s.size≤maxLen:=by
 cases h with
 | v x h hs=> exact⟨rfl,hs s rfl⟩
theorem Yk (x:Value) (h: ∀s,x= .string s→s.size≤maxLen):R tp I w x (tb x):=by
 cases x <;> first | exact .any _ | exact .v _ rfl h
theorem RT (hr: ∀t,R tp I w (a.tmps.getD t undef) (σ t)) (x:Operand) (hx:uR x=true):R tp I w (a.eval x) (ev σ x):=by
 cases x with
 | tmp t=> exact hr t
 | const x=>
   refine Yk x (fun s hs=> ?_)
   subst hs
   have:s.size≤1000000:=by simpa [uR] using hx
   simp only[maxLen];omega
 | global g=> exact .v _ rfl (fun s h=> by cases h)
 | func f=> exact .clo f [] [] rfl (fun k x c h=> by simp at h)
theorem PX {x:Operand} (ho:o.op= .move x∨o.op= .assign x) (hx:R tp I w (a.eval x) (ev σ x)) (hv:K (ev σ x)):Good P o a tp I w K:=by
 refine⟨a.eval x,ev σ x,?_,hx,hv⟩
 rcases ho with ho | ho <;> simp[execOp,ho]
theorem RD {c x y:Operand} (ho:o.op= .pick c x y) (hc:R tp I w (a.eval c) (ev σ c)) (hx:R tp I w (a.eval x) (ev σ x)) (hy:R tp I w (a.eval y) (ev σ y)) {H:ae}
 (hv:aJ (.pick c x y) σ H K):Good P o a tp I w K:=by
 simp only[aJ] at hv
 split at hv
 ·rename_i t ht
  rw[ht] at hc
  have:=hc.inv_v
  cases t
  ·exact⟨a.eval y,ev σ y,by simp[execOp,ho,this,asBool],hy,hv.2 rfl⟩
  ·exact⟨a.eval x,ev σ x,by simp[execOp,ho,this,asBool],hx,hv.1 rfl⟩
 ·exact hv.elim
theorem OT {x:Operand} (ho:o.op= .nilCheck x) (hx:R tp I w (a.eval x) (ev σ x)) {H:ae} (hv:aJ (.nilck x) σ H K):Good P o a tp I w K:=by
 simp only[aJ] at hv
 generalize hq:a.eval x=q at hx
 split at hv <;> first | exact hv.elim | skip
 all_goals
  rename_i e
  rw[e] at hx
  refine⟨q,_,?_,hx,hv⟩
  cases hx <;> simp[execOp,ho,hq]
theorem qG {op:BinOp} {t u:TypeId} {x y:Operand} (ho:o.op= .binOp op t x y u) (hop:op= .add∨op= .sub∨op= .mul∨op= .quo∨op= .rem)
 (hx:R tp I w (a.eval x) (ev σ x)) (hy:R tp I w (a.eval y) (ev σ y)) {H:ae} (hv:aJ (.arith op x y) σ H K):Good P o a tp I w K:=by
 simp only[aJ] at hv
 split at hv
 ·rename_i k p k' q e1 e2
  rw[e1] at hx;rw[e2] at hy
  have h1:=hx.inv_v;have h2:=hy.inv_v
  obtain⟨rfl,hv⟩:=hv
  rcases hop with rfl | rfl | rfl | rfl | rfl <;> simp only[ni] at hv
  ·exact⟨_,_,by simp[execOp,ho,h1,h2,eqGuard,binOp,Op.intArith,hv.1.wrap], .int _ _,hv.2⟩
  ·exact⟨_,_,by simp[execOp,ho,h1,h2,eqGuard,binOp,Op.intArith,hv.1.wrap], .int _ _,hv.2⟩
  ·exact⟨_,_,by simp[execOp,ho,h1,h2,eqGuard,binOp,Op.intArith,hv.1.wrap], .int _ _,hv.2⟩
  ·exact⟨_,_,by simp[execOp,ho,h1,h2,eqGuard,binOp,Op.intDiv,hv.1,hv.2.1.wrap], .int _ _,hv.2.2⟩
  ·exact⟨_,_,by simp[execOp,ho,h1,h2,eqGuard,binOp,Op.intDiv,hv.1], .int _ _,hv.2⟩
 ·exact hv.elim
theorem MC {op:BinOp} {t u:TypeId} {x y:Operand} (ho:o.op= .binOp op t x y u)
 (hx:R tp I w (a.eval x) (ev σ x)) (hy:R tp I w (a.eval y) (ev σ y)) {H:ae} (hv:aJ (.cmp op x y) σ H K):Good P o a tp I w K:=by
 simp only[aJ] at hv
 split at hv
 ·rename_i k p k' q e1 e2
  rw[e1] at hx;rw[e2] at hy
  have h1:=hx.inv_v;have h2:=hy.inv_v
  obtain⟨rfl,hv⟩:=hv
  cases op <;> simp only[Nh] at hv <;> first
   | exact hv.elim
   | exact⟨_,_,by simp[execOp,ho,h1,h2,eqGuard,binOp,Op.intCmp], .bool _,hv⟩
 ·rename_i p q e1 e2
  rw[e1] at hx;rw[e2] at hy
  have h1:=hx.inv_v;have h2:=hy.inv_v
  cases op <;> simp only[ZQ] at hv <;> first
   | exact hv.elim
   | exact⟨_,_,by simp[execOp,ho,h1,h2,eqGuard,binOp,Op.stringOp], .bool _,hv⟩
 ·exact hv.elim
theorem RC {t u:TypeId} {x y:Operand} (ho:o.op= .binOp .add t x y u)
 (hx:R tp I w (a.eval x) (ev σ x)) (hy:R tp I w (a.eval y) (ev σ y)) {H:ae} (hv:aJ (.scat x y) σ H K):Good P o a tp I w K:=by
 simp only[aJ] at hv
 split at hv
 ·rename_i p q e1 e2
  rw[e1] at hx;rw[e2] at hy
  have h1:=hx.inv_v;have h2:=hy.inv_v
  obtain⟨hb,hv⟩:=hv
  have hn: ¬ ((p.size:Int) +q.size > 9223372036854775807):=by omega
  refine⟨.string (p++q),_,?_, .str _ (by simp[maxLen];omega),hv⟩
  have: ¬ (9223372036854775807 < (p.size:Int) +q.size):=by omega
  simp[execOp,ho,h1,h2,eqGuard,binOp,Op.stringOp,this]
 ·exact hv.elim
theorem Uv {t:TypeId} {x:Operand} (ho:o.op= .unOp .not t x) (hx:R tp I w (a.eval x) (ev σ x)) {H:ae} (hv:aJ (.not x) σ H K):Good P o a tp I w K:=by
 simp only[aJ] at hv
 split at hv
 ·rename_i b e1
  rw[e1] at hx
  have h1:=hx.inv_v
  exact⟨_,_,by simp[execOp,ho,h1,Op.unary], .bool _,hv⟩
 ·exact hv.elim
theorem Uw {t:TypeId} {x:Operand} (ho:o.op= .unOp .neg t x) (hx:R tp I w (a.eval x) (ev σ x)) {H:ae} (hv:aJ (.neg x) σ H K):Good P o a tp I w K:=by
 simp only[aJ] at hv
 split at hv
 ·rename_i k n e1
  rw[e1] at hx
  have h1:=hx.inv_v
  have h2:=hv.1.wrap
  exact⟨.int k (0 -n),_,by simp only[execOp,ho,h1,Op.unary,Op.intArith,h2];rfl, .int _ _,hv.2⟩
 ·exact hv.elim
theorem RF {s t:TypeId} {k k0:IntKind} {x:Operand} (ho:o.op= .convert s t x) (hs:P.underlying s=some (.int k0)) (ht:P.underlying t=some (.int k))
 (hx:R tp I w (a.eval x) (ev σ x)) {H:ae} (hv:aJ (.conv k x) σ H K):Good P o a tp I w K:=by
 simp only[aJ] at hv
 split at hv
 ·rename_i k1 n e1
  rw[e1] at hx
  have h1:=hx.inv_v
  exact⟨.int k (k.wrap n),_,by simp[execOp,ho,h1,convert,run_underlying hs,run_underlying ht,Conv.intToInt], .int _ _,hv⟩
 ·exact hv.elim
theorem X2: ∀ {cs:List D} {xs ys:List Value},WJ cs=some xs→ys.length=cs.length→(∀ (k:Nat) (x:Value) (c:D),ys[k]?=some x→cs[k]?=some c→R tp I w x c)→ys=xs
 | [],xs,ys,h,hl,hr=> by
   cases h
   exact List.length_eq_zero_iff.1 hl
 | c::cs,xs, [],h,hl,hr=> by simp at hl
 | c::cs,xs,y::ys,h,hl,hr=> by
   cases c <;> simp only[WJ] at h <;> try (cases h;done)
   rename_i v
   obtain⟨xs',h1,rfl⟩:=Option.map_eq_some_iff.1 h
   have h0:=(hr 0 y (.v v) rfl rfl).inv_v
   rw[h0,X2 h1 (by simpa using hl) fun k x c hx hc=> hr (k+1) x c hx hc]
theorem RE {t:TypeId} {x:Operand} {fs:Array Field} (ho:o.op= .makeInterface t x) (ht:P.underlying t=some (.struct fs)) (hx:R tp I w (a.eval x) (ev σ x)) {H:ae} (hv:aJ (.mkif t x) σ H K):Good P o a tp I w K:=by
 simp only[aJ] at hv
 split at hv
 ·rename_i cs e1
  rw[e1] at hx
  split at hv
  ·rename_i xs hxs
   generalize hq:a.eval x=q at hx
   cases hx with
   | agg ys _ hl h1 h=>
     have:=X2 hxs hl h
     subst this
     refine⟨.iface t (.agg ys.toArray),_,?_, .v _ rfl (fun s hs=> by cases hs),hv⟩
     simp[execOp,ho,hq,Instr.makeInterface,run_underlying ht]
  ·exact hv.elim
 ·exact hv.elim
theorem UA {f:Nat} {first caps:Array Operand} (ho:o.op= .makeFunc (.func f) first caps) (hf:first.isEmpty=true) (hx: ∀x∈caps.toList,R tp I w (a.eval x) (ev σ x)) {H:ae} (hv:aJ (.clo f caps.toList) σ H K):Good P o a tp I w K:=by
 simp only[aJ] at hv
 have hf':first= #[]:=by simpa using hf
 obtain⟨caps⟩:=caps
 simp only at hv hx
 refine⟨.func (.func f) #[] (caps.map a.eval).toArray,_,by simp[execOp,ho,Instr.makeFunc,hf'], .clo f _ _ (by simp) ?_,hv⟩
 intro k x c hk hc
 rw[List.getElem?_map] at hk hc
 cases hq:caps[k]? with
 | none=> simp[hq] at hk
 | some q=>
   rw[hq] at hk hc
   simp at hk hc
   subst hk;subst hc
   exact hx q (List.mem_of_getElem? hq)
theorem Uz {x:Operand} {i:Nat} (ho:o.op= .extract x i) (hx:R tp I w (a.eval x) (ev σ x)) {H:ae} (hv:aJ (.ext x i) σ H K):Good P o a tp I w K:=by
 simp only[aJ] at hv
 split at hv
 ·rename_i ds e1
  split at hv
  ·rename_i d hd
   rw[e1] at hx
   generalize hq:a.eval x=q at hx
   cases hx with
   | tup xs ds hl h=>
     have hi:i < xs.length:=by rw[hl];exact(List.getElem?_eq_some_iff.1 hd).1
     refine⟨xs[i],d,by simp[execOp,ho,hq,Instr.extract,hi],h i _ d (by simp[hi]) hd,hv⟩
  ·exact hv.elim
 ·exact hv.elim
end
end Go.Gv
