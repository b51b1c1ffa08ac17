/- C -/
import Derived.Laws.BytesString
import Derived.Test.YtfpmgnnippjblaaGreatDoorGc01
set_option linter.all false
namespace Go.Gv
section
inductive qbE where
 |int|str|bool|nil
inductive KK where
 |int (k:IntKind)|str|bool|ptr
inductive MOp where
 |mk
 |look (ok agg ka:Bool) (ks:List KK) (z:List Value)
 |upd (ka:Bool) (ks:List KK)
 |del (ka:Bool) (ks:List KK)
 |rng
 |next
 |entry
 |len
 |aidx (len sz:Nat)
def MOp.isRead:MOp->Bool
 | .look .. | .entry| .len| .aidx .. =>true
 | _=>false
inductive COp where
 |mv (x:Operand)
 |pick (c x y:Operand)
 |alloc (el:Nat) (z:List Value)
 |box (el:Nat) (im:Bool) (x:Operand)
 |tbx (el:Nat) (x:Operand)
 |build (z:List Value) (parts:List (Nat×Nat×Operand))
 |bslice (el n:Nat) (parts:List Operand)
 |nslice (el n:Nat)
 |mslice (el n:Nat) (parts:List Operand)
 |load (agg:Bool) (sz:Nat) (x:Operand)
 |store (rt:Option Nat) (sz:Nat) (x y:Operand)
 |nilck (x:Operand)
 |arith (op:BinOp) (x y:Operand)
 |cmp (op:BinOp) (x y:Operand)
 |eql (neg agg:Bool) (ks:List qbE) (x y:Operand)
 |scat (x y:Operand)
 |not (x:Operand)
 |neg (x:Operand)
 |conv (k:IntKind) (x:Operand)
 |clo (f:Nat) (caps:List Operand)
 |mkslice (el n bytes:Nat) (agg:Bool) (z:List Value) (l c:Operand)
 |slice (n:Nat) (x:Operand) (lo hi:Option Operand)
 |sslice (x:Operand) (lo hi:Option Operand)
 |faddr (off:Nat) (x:Operand)
 |fld (agg:Bool) (sz off:Nat) (x:Operand)
 |iaddr (n:Nat) (x i:Operand)
 |sidx (x i:Operand)
 |ext (x:Operand) (i:Nat)
 |len (x:Operand)
 |slen (x:Operand)
 |mm (mx:Bool) (xs:List Operand)
 |append (rt:Option Nat) (el n bytes:Nat) (x y:Operand)
 |appmk (el n bytes:Nat) (agg:Bool) (z:List Value) (x c:Operand)
 |clear (n:Nat) (agg:Bool) (z:List Value) (x:Operand)
 |copy (n:Nat) (x y:Operand)
 |cap (x:Operand)
 |srange (x:Operand)
 |snext (x:Operand)
 |sbytes (x:Operand)
 |srunes (x:Operand)
 |bstr (x:Operand)
 |rstr (x:Operand)
 |mkif (t:Nat) (x:Operand)
 |m (o:MOp) (xs:List Operand)
 |bad
 |call (f:Nat) (args:List Operand)
 |callv (f:Operand) (args:List Operand)
 |callb (r f:Nat) (args:List Operand)
def rk:Value->D
 | .bool b=> .v (.bool b)
 | .int k n=> .v (.int k n)
 | .string s=> .v (.string s)
 | .pointer a=> .v (.pointer a)
 | .slice a l c=> .v (.slice a l c)
 | .nilFunc=> .v .nilFunc
 | .map a=> .v (.map a)
 | _=> .any
def ev(a:Sg):Operand->D
 | .tmp t=>a t
 | .const x=>rk x
 | .global g=> .v (.pointer (some ⟨g,0,none⟩))
 | .func f=> .clo f []
def BO:Operand->Bool
 | .const (.string s)=>decide (s.size<=1000000)
 | _=>true
def cx(P:Program)(t:TypeId):Option Nat:=(P.info? t).map (·.size)
def gS(P:Program)(t:TypeId):Option Bool:=
 match P.underlying t with
 |some (.struct _)|some (.array _ _)=>some true
 |some _=>some false
 |none=>none
def cv(P:Program)(t:TypeId):Option (List Value):=do
 let i <-P.info? t
 let z <-i.zero
 if z.cells.toList.all (·.oneCell') && z.cells.size==i.size && z.cells.toList.all (λx=>match x with| .string s=>decide (s.size<=1000000)| .bool _| .int _ _| .pointer _| .slice _ _ _| .nilFunc| .map _=>true|_=>false)then some z.cells.toList else none
def Nt(P:Program)(t:TypeId)(agg:Bool):Bool:=match(P.info? t).bind (·.zero)with
 |some (.agg _)=>agg
 |some x=>!agg && x.oneCell'
 |none=>false
def Ef(P:Program)(kf:TypeId->Option (List KK)):List Field->Nat->Option (List KK)
 | [],_=>some []
 | f::r,off=>do
   let ks <-kf f.type
   if f.offset = off && decide (f.name ≠ "_") && decide (cx P f.type = some ks.length) then
    let l <-Ef P kf r (off+ks.length)
    some (ks++l)
   else none
def Nc(P:Program):Nat->TypeId->Option (List KK)
 | 0,_=>none
 | n+1,t=>match P.underlying t with
   |some (.int k)=>some [.int k]
   |some .string=>some [.str]
   |some .bool=>some [.bool]
   | some (.pointer e)=>match cx P e with
     |some (_+1)=>some [.ptr]
     | _=>none
   |some (.struct fs)=>if P.stoodInHeld t then none else Ef P (Nc P n) fs.toList 0
   | some (.array len e)=>do
     let ks <-Nc P n e
     if cx P e=some ks.length then some (List.replicate len ks).flatten else none
   | _=>none
def qke(P:Program)(t:TypeId):Option (Bool×List KK):=do
 let ka <-gS P t
 let ks <-Nc P 50 t
 some (ka,ks)
def mB(P:Program)(t:TypeId):Option qbE:=
 match P.underlying t with
 |some (.int _)=>some .int
 |some .string=>some .str
 |some .bool=>some .bool
 |some (.slice _)=>some .nil
 | _=>none
def A5(P:Program)(t:TypeId):Option (List qbE):=
 match P.underlying t with
 | some (.struct fs)=>
   if !P.stoodInHeld t && !P.eqGuardType P.depth t && decide (fs.toList.map (·.offset) = List.range' 0 fs.toList.length) && fs.toList.all (fun f => decide (f.name ≠ "_")) then fs.toList.mapM (fun f => mB P f.type) else none
 | _=>none
def oa(P:Program)(neg:Bool)(t:TypeId)(x y:Operand):Option COp:=
 match mB P t with
 |some k=>some (.eql neg false [k] x y)
 |none=>(A5 P t).map λks=> .eql neg true ks x y
def yD(parts:Array (Nat×Operand))(n:Nat):Option (List Operand):=
 if parts.toList.map (·.1)=List.range n then some (parts.toList.map (·.2))else none
def qk8(im:List Nat)(d:Option Nat):Bool:=d.any im.contains
def quJ(im:List Nat)(d:Option Nat):Bool:=d.any λd=>im.contains (d+100000)
def qm9(im:List Nat)(d:Option Nat):Bool:=d.any λd=>im.contains (d+200000)
def qjg(im:List Nat)(d:Option Nat):Option Nat:=d.bind λd=>(im.find? λc=>c/1000=1000+d).map λc=>c % 1000
def qqQ(im:List Nat)(x:Operand):Option Nat:=match x with
 | .tmp t=>(im.find? λc=>c/1000=2000+t).map λc=>c % 1000
 | _=>none
def qfo(im:List Nat)(d:Option Nat):Option Nat:=d.bind λd=>(im.find? λc=>c/1000=3000+d).map λc=>c % 1000
def qdt(b:Option Nat)(f:Nat)(args:List Operand):COp:=match b with
 |none=> .call f args
 |some r=> .callb r f args
def qpE(im:List Nat):Bool:=im.contains 300000
def E6:Nat:=1000000007
def Wr(P:Program)(t:TypeId):Bool:=match P.underlying t with|some (.int _)=>true|_=>false
def cV(P:Program)(im:List Nat)(o:Oper):Option COp:=
 if !o.op.operands.toList.all BO then none else
 match o.op with
 | .move x| .assign x=>some (.mv x)
 | .pick c x y=>some (.pick c x y)
 | .alloc el=>do some (.alloc el (<-cv P el))
 | .box el x=>if qm9 im o.dst then some (.tbx el x)else some (.box el (qk8 im o.dst) x)
 | .build t parts=>do
   let z <-cv P t
   match P.underlying t with
   | some (.struct fs)=>
     let a <-parts.toList.mapM λp=>do
      let f <-fs[p.1]?
      let sz <-cx P f.type
      if f.offset+sz<=z.length then some (f.offset,sz,p.2)else none
     if fs.toList.all (λf=>(cx P f.type).isSome)then some (.build z a)else none
   | some (.array _ el)=>
     let sz <-cx P el
     let a <-parts.toList.mapM λp=>if p.1*sz+sz<=z.length then some (p.1*sz,sz,p.2)else none
     some (.build z a)
   | _=>none
 | .buildSlice t len parts=>do
   match P.underlying t with
   | some (.slice el)=>
     let n <-cx P el
     let _ <-cv P el
     let a <-yD parts len
     if len*n<=2^24 && 0<n then(if len=0 then some (.nslice el n)else if quJ im o.dst then some (.mslice el n a)else some (.bslice el n a))else none
   | _=>none
 | .load t x=>do
   let agg <-gS P t
   let sz <-cx P t
   if agg||sz=1 then some (.load agg sz x)else none
 | .store t x y=>do some (.store (qqQ im x) (<-cx P t) x y)
 | .nilCheck x=>some (.nilck x)
 | .binOp op t x y _=>
   match op with
   | .add=>if Wr P t then some (.arith .add x y)else match P.underlying t with|some .string=>some (.scat x y)|_=>none
   | .sub| .mul| .quo| .rem=>if Wr P t then some (.arith op x y)else none
   | .and| .or| .shl| .shr=>if Wr P t then some (.arith op x y)else none
   | .lss| .leq| .gtr| .geq=>if Wr P t then some (.cmp op x y)else match P.underlying t with|some .string=>some (.cmp op x y)|_=>none
   | .eql=>oa P false t x y
   | .neq=>oa P true t x y
   | _=>none
 | .unOp .not _ x=>some (.not x)
 | .unOp .neg _ x=>some (.neg x)
 | .convert s t x=>
   match P.underlying s,P.underlying t with
   |some (.int _),some (.int k)=>some (.conv k x)
   |some (.int _),some .string=>some (.rstr x)
   | some .string,some (.slice el)=>match P.underlying el with
     |some (.int .u8)=>some (.sbytes x)
     |some (.int .i32)=>some (.srunes x)
     | _=>none
   | some (.slice el),some .string=>match P.underlying el with
     |some (.int .u8)=>some (.bstr x)
     | _=>none
   | _,_=>none
 | .makeFunc (.func f) first caps=>if first.isEmpty then some (.clo f caps.toList)else none
 | .makeSlice t l c=>do
   match P.underlying t with
   | some (.slice el)=>
     let n <-cx P el
     let z <-cv P el
     let b:=P.bytesOf el
     let agg <-gS P el
     if 0<n && (agg||n=1)then some (.mkslice el n b agg z l c)else none
   | _=>none
 | .slice t x lo hi none=>
   match P.underlying t with
   |some (.slice el)=>do some (.slice (<-cx P el) x lo hi)
   |some .string=>some (.sslice x lo hi)
   | _=>none
 | .fieldAddr t x f=>do
   match P.underlying t with
   | some (.struct fs)=>
     let fd <-fs[f]?
     let sz <-cx P fd.type
     if 0<sz then some (.faddr fd.offset x)else none
   | _=>none
 | .field t x f=>do
   match P.underlying t with
   | some (.struct fs)=>
     let fd <-fs[f]?
     let agg <-gS P fd.type
     let sz <-cx P fd.type
     if agg||sz=1 then some (.fld agg sz fd.offset x)else none
   | _=>none
 | .indexAddr t x i=>do
   match P.underlying t with
   |some (.slice el)=>some (.iaddr (<-cx P el) x i)
   | some (.array len el)=>match i with
     | .const (.int .i64 k)=>do
       let sz <-cx P el
       if 0<=k/\k<len then some (.faddr (k.toNat*sz) x)else none
     | _=>do some (.m (.aidx len (<-cx P el)) [x,i])
   | _=>none
 | .index t x i=>
   match P.underlying t with
   |some .string=>some (.sidx x i)
   | _=>none
 | .extract x i=>some (.ext x i)
 | .range t x=>match P.underlying t with
   |some .string=>some (.srange x)
   |some (.map _ _)=>some (.m .rng [x])
   | _=>none
 | .next x true=>some (.snext x)
 | .next x false=>some (.m .next [x])
 | .entry x=>some (.m .entry [x])
 | .makeMap t none=>some (.m .mk [])
 | .lookup t x k ok=>match P.underlying t with
   | some (.map d h)=>do
     let (ka,ks) <-qke P d
     let z <-cv P h
     let agg <-gS P h
     if Nt P h agg then some (.m (.look ok agg ka ks z) [x,k])else none
   | _=>none
 | .mapUpdate t x k v| .insert t x k v=>match P.underlying t with
   | some (.map d _)=>do
     let (ka,ks) <-qke P d
     some (.m (.upd ka ks) [x,k,v])
   | _=>none
 | .makeInterface t x=>if qpE im then(match P.underlying t with|some (.struct _)=>some (.mkif t x)|_=>none)else some .bad
 | .panic x=>if qpE im && decide (P.funcs.size<=E6)then some (.call E6 [x])else some .bad
 | .call c=>
   match c.callee with
   | .value (.func f)=>if f=E6 then none else some (qdt (qfo im o.dst) f c.args.toList)
   | .value f=>some (.callv f c.args.toList)
   | .builtin .len=>match c.argTypes.toList,c.args.toList with
     | [t], [x]=>match P.underlying t with|some (.slice _)=>some (.len x)|some .string=>some (.slen x)|some (.map _ _)=>some (.m .len [x])|_=>none
     | _,_=>none
   | .builtin .min=>some (.mm false c.args.toList)
   | .builtin .max=>some (.mm true c.args.toList)
   | .builtin .append=>match c.argTypes.toList,c.args.toList with
     | [t,u], [x,y]=>if t=u then(match P.underlying t with
       | some (.slice el)=>do
         let n <-cx P el
         let _ <-cv P el
         if 0<n then some (.append (qjg im o.dst) el n (P.bytesOf el) x y)else none
       | _=>none)else(match P.underlying t,P.underlying u with
       | some (.slice el),some (.int _)=>do
         let n <-cx P el
         let z <-cv P el
         let agg <-gS P el
         if 0<n && (agg||n=1)then some (.appmk el n (P.bytesOf el) agg z x y)else none
       | some (.slice el),some .string=>do
         let n <-cx P el
         let _ <-cv P el
         if n=1 then some (.append (qjg im o.dst) el n (P.bytesOf el) x y)else none
       | _,_=>none)
     | _,_=>none
   | .builtin .clear=>match c.argTypes.toList,c.args.toList with
     | [t], [x]=>match P.underlying t with
       | some (.slice el)=>do
         let n <-cx P el
         let z <-cv P el
         let agg <-gS P el
         if 0<n && (agg||n=1)then some (.clear n agg z x)else none
       | _=>none
     | _,_=>none
   | .builtin .copy=>match c.argTypes.toList,c.args.toList with
     | [t,u], [x,y]=>if t=u then(match P.underlying t with
       | some (.slice el)=>do
         let n <-cx P el
         if 0<n then some (.copy n x y)else none
       | _=>none)else none
     | _,_=>none
   | .builtin .cap=>match c.argTypes.toList,c.args.toList with
     | [t], [x]=>match P.underlying t with|some (.slice _)=>some (.cap x)|_=>none
     | _,_=>none
   | .builtin .delete=>match c.argTypes.toList,c.args.toList with
     | [t,_], [x,k]=>match P.underlying t with
       | some (.map d _)=>do
         let (ka,ks) <-qke P d
         some (.m (.del ka ks) [x,k])
       | _=>none
     | _,_=>none
   | _=>none
 | _=>none
abbrev PT:=Nat->List D->ab->(D->ab->Prop)->Prop
structure PC where
 pre:List D->Prop
 post:List D->D->Prop
def qq(A:PT):Prop:=∀(d:Nat) (ds:List D) (H:ab) (K a:D->ab->Prop),(∀r H,K r H->a r H)->A d ds H K->A d ds H a
inductive Spc where
 |none
 |pure (c:PC)
 |gen (A:PT) (h:qq A)
def Spc.pt:Spc->PT
 | .none=>λ_ _ _ _=>False
 | .pure c=>λ_ ds H K=>c.pre ds/\∀r,c.post ds r->K r H
 | .gen A _=>A
def InR:IntKind->Int->Prop
 | .i64,n=> -9223372036854775808<=n/\n<=9223372036854775807
 | .i32,n=> -2147483648<=n/\n<=2147483647
 | .i16,n=> -32768<=n/\n<=32767
 | .i8,n=> -128<=n/\n<=127
 | .u64,n=>0<=n/\n<=18446744073709551615
 | .u32,n=>0<=n/\n<=4294967295
 | .u16,n=>0<=n/\n<=65535
 | .u8,n=>0<=n/\n<=255
theorem InR.wrap{k:IntKind}{n:Int}(h:InR k n):k.wrap n=n:=by
 cases k<;>simp[InR]at h<;>simp[IntKind.wrap,IntKind.bits,IntKind.signed] <;>lia
def qbn(k:IntKind)(a b:Int):Int:=k.wrap (BitVec.ofInt k.bits a &&& BitVec.ofInt k.bits b).toNat
def qtc(k:IntKind)(a b:Int):Int:=k.wrap (BitVec.ofInt k.bits a|||BitVec.ofInt k.bits b).toNat
def U1(k:IntKind)(a b:Int):Int:=k.wrap (a*2^min b.toNat k.bits)
def qcn(k:IntKind)(a b:Int):Int:=a.fdiv (2^min b.toNat k.bits)
def qgS(op:BinOp)(k a:IntKind):Prop:=match op with
 | .shl| .shr=>True
 | _=>k=a
def gW(op:BinOp)(k:IntKind)(a b:Int)(K:D->Prop):Prop:=
 match op with
 | .add=>InR k (a+b)/\K (.v (.int k (a+b)))
 | .sub=>InR k (a -b)/\K (.v (.int k (a -b)))
 | .mul=>InR k (a*b)/\K (.v (.int k (a*b)))
 | .quo=>b≠0/\InR k (a.tdiv b)/\K (.v (.int k (a.tdiv b)))
 | .rem=>b≠0/\K (.v (.int k (a.tmod b)))
 | .and=>K (.v (.int k (qbn k a b)))
 | .or=>K (.v (.int k (qtc k a b)))
 | .shl=>0<=b/\K (.v (.int k (U1 k a b)))
 | .shr=>0<=b/\K (.v (.int k (qcn k a b)))
 | _=>False
def Xa(op:BinOp)(a b:Int):Option Bool:=
 match op with
 | .lss=>some (decide (a<b))
 | .leq=>some (decide (a<=b))
 | .gtr=>some (decide (b<a))
 | .geq=>some (decide (b<=a))
 | _=>none
def qa1(op:BinOp)(a b:ByteArray):Option Bool:=
 match op with
 | .lss=>some (Op.bytesLess a.toList b.toList)
 | .leq=>some (Op.bytesLess a.toList b.toList||a.toList==b.toList)
 | .gtr=>some (!(Op.bytesLess a.toList b.toList||a.toList==b.toList))
 | .geq=>some (!Op.bytesLess a.toList b.toList)
 | _=>none
def qx3:List D->Option (List Value)
 | []=>some []
 | .v x::l=>(qx3 l).map (x:: ·)
 | _=>none
def mM:D->Option (IntKind×Int)
 | .v (.int k n)=>some (k,n)
 | _=>none
def qwB:D->Option ByteArray
 | .v (.string s)=>some s
 | _=>none
def qwC:D->Option Bool
 | .v (.bool b)=>some b
 | _=>none
def qrj:D->D->Option Bool
 | .v (.slice none 0 0), .v (.slice none 0 0)=>some true
 | .list _ (_::_), .v (.slice none 0 0)=>some false
 | _,_=>none
def qaE(k:qbE)(d e:D):Option Bool:=
 match k with
 | .int=>(mM d).bind λp=>(mM e).bind λq=>if p.1=q.1 then some (decide (p.2=q.2))else none
 | .str=>(qwB d).bind λp=>(qwB e).bind λq=>some (decide (p=q))
 | .bool=>(qwC d).bind λp=>(qwC e).bind λq=>some (decide (p=q))
 | .nil=>qrj d e
def qdk:List qbE->List D->List D->Option Bool
 | [],as,c=>if as.isEmpty && c.isEmpty then some true else none
 |k::ks,as,c=>as.head?.bind λa=>c.head?.bind λb=>(qaE k a b).bind λp=>(qdk ks as.tail c.tail).bind λq=>some (p && q)
def wy:D->Option (List D)
 | .agg cs=>some cs
 | _=>none
def qkY(agg:Bool)(ks:List qbE)(a b:D):Option Bool:=
 if agg then(wy a).bind λas=>(wy b).bind λc=>qdk ks as c
 else match ks with
  | [k]=>qaE k a b
  | _=>none
def lX(lo hi:Option (Option (IntKind×Int)))(len:Nat)(K:Nat->Nat->Prop):Prop:=
 match lo,hi with
 |none,none=>K 0 len
 |some (some (_,l)),none=>0<=l/\l<=len/\K l.toNat len
 |none,some (some (_,h))=>0<=h/\h<=len/\K 0 h.toNat
 |some (some (_,l)),some (some (_,h))=>0<=l/\l<=h/\h<=len/\K l.toNat h.toNat
 | _,_=>False
def XA(agg:Bool)(z:List Value):D:=if agg then .agg (z.map rk)else rk (z.headD (.bool false))
def setAt(l:List D)(off:Nat)(new:List D):List D:=l.take off++new++l.drop (off+new.length)
def Nb(agg:Bool)(sz:Nat)(cs:List D)(off:Nat):D:=if agg then .agg ((cs.drop off).take sz)else(cs[off]?).getD .any
def kE(a:Sg):List (Nat×Nat×Operand)->List D->(List D->Prop)->Prop
 | [],cs,K=>K cs
 |(off,sz,x)::r,cs,K=>(ev a x).kn=true/\(ev a x).cells.length=sz/\kE a r (setAt cs off (ev a x).cells) K
def km(n:Nat):List D->Prop
 | []=>True
 |d::r=>d.kn=true/\d.cells.length=n/\km n r
def qdw:D->Option UInt8
 | .v (.int .u8 n)=>some (UInt8.ofNat n.toNat)
 | _=>none
def qpX(es:List D):Bool:=es.all λd=>(qdw d).isSome
def qsm(es:List D):ByteArray:=⟨(es.map λd=>(qdw d).getD 0).toArray⟩
def qot:KK->D->Bool
 | .int k, .v (.int a _)=>decide (k=a)
 | .str, .v (.string _)=>true
 | .bool, .v (.bool _)=>true
 | .ptr, .cptr cs _=>decide (cs.length≠1)
 | .ptr, .v (.pointer none)=>true
 | _,_=>false
def qos:List KK->List D->Bool
 | [], []=>true
 |k::ks,d::ds=>qot k d && qos ks ds
 | _,_=>false
def qax(ka:Bool)(ks:List KK)(d:D):Bool:=
 if ka then(match wy d with|some cs=>qos ks cs|none=>false)else(match ks with|[k]=>qot k d|_=>false)
def qdd(ka:Bool)(ks:List KK):D->Bool
 | .tup [k,_]=>qax ka ks k
 | _=>false
def qtj:D->Bool
 | .v _=>true
 | _=>false
def Fi(d:D):Bool:=d.cells.all qtj
def qfC(a b:D):Prop:=∃(tp I:Nat->Prop) (w:World) (x:Value),R tp I w x a/\R tp I w x b
def IM(d:D)(H:ab)(K:List D->Prop):Prop:=
 match d with
 | .mp es=>K es
 | .v (.map none)=>K []
 | .own id x=>match H id with
   |some (.mrow a es)=>a=x/\K es
   | _=>False
 | _=>False
def qyy(ok:Bool)(v:D)(b:Bool):D:=if ok then .tup [v, .v (.bool b)]else v
def qru(ok agg ka:Bool)(ks:List KK)(z:List Value)(k:D)(es:List D)(K:D->Prop):Prop:=
 es.all (qdd ka ks)=true/\qax ka ks k=true/\(∀a v,D.tup [a,v] ∈es->qfC k a->K (qyy ok v true))/\((Fi k=true->∀v,D.tup [k,v] ∉es)->K (qyy ok (XA agg z) false))
def Yx(ka:Bool)(ks:List KK)(k v:D)(es:List D)(K:List D->Prop):Prop:=
 es.all (qdd ka ks)=true/\qax ka ks k=true/\(∀a b v' c,es=a++D.tup [b,v']::c->qfC k b->K (a++D.tup [k,v]::c))/\((Fi k=true->∀v',D.tup [k,v'] ∉es)->K (es++ [.tup [k,v]]))
def TG(ka:Bool)(ks:List KK)(k:D)(es:List D)(st:List Nat)(K:List D->List Nat->Prop):Prop:=
 es.all (qdd ka ks)=true/\qax ka ks k=true/\(∀(i:Nat) (a v':D),es[i]? =some (D.tup [a,v'])->qfC k a->K (es.eraseIdx i) (st.eraseIdx i))/\((Fi k=true->∀v',D.tup [k,v'] ∉es)->K es st)
def qp9(st:List Nat)(clock n:Nat):Prop:=st.length=n/\st.Nodup/\∀s∈st,s<clock
def Fa(x:Value)(clock:Nat)(seen:List Nat)(r:Option Res)(K:D->Prop):Prop:=match r with
 | some (.raw (.mrs b es st a))=>b=x/\a=clock/\match seen.getLast? with
   |some s=>s∈st/\∀(i:Nat) (e:D),st[i]? =some s->es[i]? =some e->K e
   |none=>False
 | _=>False
def L5(id b m:Nat)(x:Value)(clock:Nat)(seen:List Nat)(r:Option Res)(H:ab)(K:D->ab->Prop):Prop:=match r with
 | some (.raw (.mrs c es st a))=>c=x/\a=clock/\((∀s∈st,s∈seen)->K (.tup [.v (.bool false)]) (aj H m (some (.mrow c es))))/\
    ∀s,s∈st->s∉seen->K (.tup [.v (.bool true), .any, .any]) (aj H id (some (.raw (.mit b m x clock (seen++ [s])))))
 | _=>False
def LV(t id:Nat)(x:Value)(r:Option Res)(H:ab)(K:D->ab->Prop):Prop:=match r with
 |some (.mrow a es)=>a=x/\∀b st clock,qp9 st clock es.length->K (.bptr t b 0) (aj (aj H id (some (.raw (.mrs a es st clock)))) t (some (.raw (.mit b id a clock []))))
 | _=>False
def qkP(off:Nat)(d:D)(K:D->Prop):Prop:=match d with
 | .cptr cs o=>K (.cptr cs (o+off))
 | .bptr id b o=>K (.bptr id b (o+off))
 | .eptr id x n i o=>K (.eptr id x n i (o+off))
 | _=>False
def Dd(o:MOp)(ds:List D)(H:ab)(K:D->Prop):Prop:=
 match o,ds with
 | .look ok agg ka ks z, [x,k]=>IM x H λes=>qru ok agg ka ks z k es K
 | .len, [x]=>IM x H λes=>K (.v (.int .i64 es.length))
 | .entry, [.bptr id b off]=>off=0/\match H id with
   |some (.miter b' [e] _)=>b'=b/\K e
   |some (.raw (.mit b' m x clock seen))=>b'=b/\Fa x clock seen (H m) K
   | _=>False
 | .aidx len sz, [x, .v (.int _ k)]=>0<=k/\k<len/\qkP (k.toNat*sz) x K
 | _,_=>False
def iR(o:MOp)(ds:List D)(dst:Option Nat)(H:ab)(K:D->ab->Prop):Prop:=
 match o,ds with
 | .mk, []=>match dst with
   |some t=>∀x,K (.own t x) (aj H t (some (.mrow x [])))
   |none=>False
 | .upd ka ks, [.own id x,k,v]=>match H id with
   |some (.mrow a es)=>a=x/\Yx ka ks k v es λes'=>K .undef (aj H id (some (.mrow a es')))
   | _=>False
 | .rng, [x]=>match dst with
   | some t=>(match x with
     | .mp es=>∀b,K (.bptr t b 0) (aj H t (some (.miter b [] es)))
     | .v (.map none)=>∀b,K (.bptr t b 0) (aj H t (some (.miter b [] [])))
     | .own id x=>LV t id x (H id) H K
     | _=>False)
   |none=>False
 | .next, [.bptr id b off]=>off=0/\match H id with
   |some (.miter b' cur left)=>b'=b/\(left=[]->K (.tup [.v (.bool false)]) H)/\∀h e j,left=h++e::j->K (.tup [.v (.bool true), .any, .any]) (aj H id (some (.miter b' [e] (h++j))))
   |some (.raw (.mit b' m x clock seen))=>b'=b/\L5 id b' m x clock seen (H m) H K
   | _=>False
 | .del ka ks, [.own id x,k]=>match H id with
   |some (.raw (.mrs a es st clock))=>a=x/\TG ka ks k es st λes' c=>K (.tup []) (aj H id (some (.raw (.mrs a es' c clock))))
   | _=>False
 |o,ds=>Dd o ds H λd=>K d H
def ak(c:COp)(j:Sg)(H:ab)(K:D->Prop):Prop:=
 match c with
 | .mv x=>K (ev j x)
 | .pick c x y=>match ev j c with
   | .v (.bool t)=>(t=true->K (ev j x))/\(t=false->K (ev j y))
   | _=>False
 | .box _ true x=>(ev j x).kn=true/\K (.cptr (ev j x).cells 0)
 | .build z parts=>kE j parts (z.map rk) λcs=>K (.agg cs)
 | .bslice _ n A=>km n (A.map (ev j))/\K (.list n (A.map (ev j)))
 | .load agg sz x=>match ev j x with
   | .cptr cs off=>off+sz<=cs.length/\K (Nb agg sz cs off)
   | .bptr id b off=>match H id with
     |some (.box b' cells)=>b'=b/\off+sz<=cells.length/\K (Nb agg sz cells off)
     | _=>False
   | .eptr id x n i off=>match H id with
     |some (.row r _ q es)=>r=x/\q=n/\off+sz<=n/\i<es.length/\∀d,es[i]? =some d->K (Nb agg sz d.cells off)
     | _=>False
   | _=>False
 | .nilck x=>match ev j x with
   | .cptr cs off=>K (.cptr cs off)
   | .bptr id b off=>K (.bptr id b off)
   | .eptr id x n i off=>K (.eptr id x n i off)
   | .tape L=>K (.tape L)
   | .clo f caps=>K (.clo f caps)
   | _=>False
 | .arith op x y=>match ev j x,ev j y with
   | .v (.int k a), .v (.int u b)=>qgS op k u/\gW op k a b K
   | _,_=>False
 | .cmp op x y=>match ev j x,ev j y with
   | .v (.int k a), .v (.int u b)=>k=u/\(match Xa op a b with|some t=>K (.v (.bool t))|none=>False)
   | .v (.string a), .v (.string b)=>match qa1 op a b with|some t=>K (.v (.bool t))|none=>False
   | _,_=>False
 | .eql neg agg ks x y=>match qkY agg ks (ev j x) (ev j y)with
   |some p=>K (.v (.bool (if neg then !p else p)))
   |none=>False
 | .scat x y=>match ev j x,ev j y with
   | .v (.string a), .v (.string b)=>a.size+b.size<=1000000000/\K (.v (.string (a++b)))
   | _,_=>False
 | .not x=>match ev j x with
   | .v (.bool b)=>K (.v (.bool (!b)))
   | _=>False
 | .neg x=>match ev j x with
   | .v (.int k n)=>InR k (0 -n)/\K (.v (.int k (0 -n)))
   | _=>False
 | .conv k x=>match ev j x with
   | .v (.int _ n)=>K (.v (.int k (k.wrap n)))
   | _=>False
 | .clo f caps=>K (.clo f (caps.map (ev j)))
 | .slice n x lo hi=>match ev j x with
   | .list q es=>q=n/\(match lo.map (λo=>mM (ev j o)),hi.map (λo=>mM (ev j o))with
     |none,none=>K (.list n es)
     |some (some (_,l)),none=>0<=l/\l<=es.length/\K (.list n (es.drop l.toNat))
     |none,some (some (_,h))=>0<=h/\h<=es.length/\K (.list n (es.take h.toNat))
     |some (some (_,l)),some (some (_,h))=>0<=l/\l<=h/\h<=es.length/\K (.list n ((es.take h.toNat).drop l.toNat))
     | _,_=>False)
   | .own id x=>match H id with
     |some (.row r _ q es)=>r=x/\q=n/\lX (lo.map λo=>mM (ev j o)) (hi.map λo=>mM (ev j o)) es.length λl h=>K (.sub id x n l h)
     | _=>False
   | .sub id x q a b=>q=n/\lX (lo.map λo=>mM (ev j o)) (hi.map λo=>mM (ev j o)) (b -a) λl h=>K (.sub id x n (a+l) (a+h))
   | .v (.slice none 0 0)=>lX (lo.map λo=>mM (ev j o)) (hi.map λo=>mM (ev j o)) 0 λ_ _=>K (.v (.slice none 0 0))
   | _=>False
 | .sslice x lo hi=>match ev j x with
   | .v (.string s)=>(match lo.map (λo=>mM (ev j o)),hi.map (λo=>mM (ev j o))with
     |none,none=>K (.v (.string (s.extract 0 s.size)))
     |some (some (_,l)),none=>0<=l/\l<=s.size/\K (.v (.string (s.extract l.toNat s.size)))
     |none,some (some (_,h))=>0<=h/\h<=s.size/\K (.v (.string (s.extract 0 h.toNat)))
     |some (some (_,l)),some (some (_,h))=>0<=l/\l<=h/\h<=s.size/\K (.v (.string (s.extract l.toNat h.toNat)))
     | _,_=>False)
   | _=>False
 | .faddr off x=>match ev j x with
   | .cptr cs o=>K (.cptr cs (o+off))
   | .bptr id b o=>K (.bptr id b (o+off))
   | .eptr id x n i o=>K (.eptr id x n i (o+off))
   | _=>False
 | .fld agg sz off x=>match ev j x with
   | .agg cs=>off+sz<=cs.length/\K (Nb agg sz cs off)
   | _=>False
 | .iaddr n x i=>match ev j i with
   | .v (.int _ k)=>match ev j x with
     | .list q es=>q=n/\0<=k/\k<es.length/\∀d,es[k.toNat]? =some d->K (.cptr d.cells 0)
     | .own id x=>match H id with
       |some (.row r _ q es)=>r=x/\q=n/\0<=k/\k<es.length/\K (.eptr id x n k.toNat 0)
       | _=>False
     | .sub id x q lo hi=>q=n/\0<=k/\k<(hi -lo:Nat)/\K (.eptr id x n (lo+k.toNat) 0)
     | _=>False
   | _=>False
 | .sidx x i=>match ev j i with
   | .v (.int _ k)=>match ev j x with
     | .v (.string s)=>0<=k/\k<s.size/\∀c,s.data[k.toNat]? =some c->K (.v (.int .u8 c.toNat))
     | _=>False
   | _=>False
 | .ext x i=>match ev j x with
   | .tup ds=>match ds[i]? with
     |some d=>K d
     |none=>False
   | _=>False
 | .len x=>match ev j x with
   | .list _ es=>(es.length:Int)<=9223372036854775807->K (.v (.int .i64 es.length))
   | .own id x=>match H id with
     |some (.row r _ _ es)=>r=x/\((es.length:Int)<=9223372036854775807->K (.v (.int .i64 es.length)))
     | _=>False
   | .v (.slice _ n _)=>K (.v (.int .i64 n))
   | .sub _ _ _ lo hi=>((hi -lo:Nat):Int)<=9223372036854775807->K (.v (.int .i64 (hi -lo:Nat)))
   | _=>False
 | .cap x=>match ev j x with
   | .v (.slice none 0 0)=>K (.v (.int .i64 0))
   | _=>False
 | .sbytes x=>match ev j x with
   | .v (.string s)=>K (.list 1 (s.data.toList.map λc=> .v (.int .u8 c.toNat)))
   | _=>False
 | .srunes x=>match ev j x with
   | .v (.string s)=>s.size<=1000000000/\K (.list 1 ((Conv.runesFrom s s.size 0 #[]).toList.map D.v))
   | _=>False
 | .bstr x=>match ev j x with
   | .own id x=>match H id with
     |some (.row r _ n es)=>r=x/\n=1/\qpX es=true/\K (.v (.string (qsm es)))
     | _=>False
   | .v (.slice none 0 0)=>K (.v (.string ⟨#[]⟩))
   | _=>False
 | .rstr x=>match ev j x with
   | .v (.int _ n)=>K (.v (.string (Utf8.encode n)))
   | _=>False
 | .mkif t x=>match ev j x with
   | .agg cs=>match qx3 cs with
     |some xs=>K (.v (.iface t (.agg xs.toArray)))
     |none=>False
   | _=>False
 | .slen x=>match ev j x with
   | .v (.string s)=>(s.size:Int)<=9223372036854775807->K (.v (.int .i64 s.size))
   | _=>False
 | .m o xs=>Dd o (xs.map (ev j)) H K
 | .mm mx [x,y]=>match ev j x,ev j y with
   | .v (.int k a), .v (.int u b)=>k=u/\K (.v (.int k (if mx then max a b else min a b)))
   | _,_=>False
 | .mm mx [x,y,z]=>match ev j x,ev j y,ev j z with
   | .v (.int k a), .v (.int u b), .v (.int w c)=>k=u/\k=w/\K (.v (.int k (if mx then max (max a b) c else min (min a b) c)))
   | _,_,_=>False
 | _=>False
def mQ(n:Nat)(d:D)(H:ab)(K:List D->Prop):Prop:=
 match d with
 | .list a es=>a=n/\K es
 | .own id x=>match H id with
   |some (.row b _ a es)=>b=x/\a=n/\K es
   | _=>False
 | .v (.slice none 0 0)=>K []
 | .sub id x a lo hi=>match H id with
   |some (.row b _ c es)=>b=x/\a=n/\c=n/\K ((es.take hi).drop lo)
   | _=>False
 | _=>False
def HV(s:ByteArray):List D:=s.data.toList.map λb=> .v (.int .u8 b.toNat)
def uP(n:Nat)(d:D)(H:ab)(K:List D->Prop):Prop:=
 match d with
 | .v (.string s)=>n=1/\K (HV s)
 |d=>mQ n d H K
def bj(c:COp)(dst:Option Nat)(a:Sg)(H:ab)(K:D->ab->Prop):Prop:=
 match c with
 | .alloc _ z=>match dst with
   |some t=>∀b,K (.bptr t b 0) (aj H t (some (.box b (z.map rk))))
   |none=>False
 | .box _ false x=>match dst with
   |some t=>(ev a x).kn=true/\∀b,K (.bptr t b 0) (aj H t (some (.box b (ev a x).cells)))
   |none=>False
 | .tbx el x=>match dst with
   |some t=>(ev a x).kn=true/\∀b,K (.bptr t b 0) (aj H t (some (.tbox el b (ev a x).cells)))
   |none=>False
 | .nslice el n=>match dst with
   |some t=>∀x,K (.own t x) (aj H t (some (.row x el n [])))
   |none=>False
 | .mslice el n q=>match dst with
   |some t=>km n (q.map (ev a))/\∀x,K (.own t x) (aj H t (some (.row x el n (q.map (ev a)))))
   |none=>False
 | .mkslice el n bytes agg z l c=>match dst with
   | some t=>match mM (ev a l),mM (ev a c)with
     |some (_,l),some (_,c)=>0<=l/\l<=c/\bytes*c<=140737488355328/\c<=140737488355328/\∀x,K (.own t x) (aj H t (some (.row x el n (List.replicate l.toNat (if agg then .agg (z.map rk)else rk (z.headD (.bool false)))))))
     | _,_=>False
   |none=>False
 | .store _ sz x y=>(ev a y).kn=true/\(ev a y).cells.length=sz/\match ev a x with
   | .bptr id b off=>match H id with
     |some (.box b' cells)=>b'=b/\off+sz<=cells.length/\K .undef (aj H id (some (.box b' (setAt cells off (ev a y).cells))))
     | _=>False
   | .eptr id x n i off=>match H id with
     | some (.row h el j es)=>h=x/\j=n/\0<n/\off+sz<=n/\i<es.length/\∀d,es[i]? =some d->
        K .undef (aj H id (some (.row h el j (es.set i (if off=0/\sz=n then ev a y else .agg (setAt d.cells off (ev a y).cells))))))
     | _=>False
   | _=>False
 | .srange x=>match dst,ev a x with
   |some t, .v (.string s)=>∀b,K (.bptr t b 0) (aj H t (some (.iter b s 0)))
   | _,_=>False
 | .snext x=>match ev a x with
   | .bptr id b off=>off=0/\match H id with
     |some (.iter b' s pos)=>b'=b/\(pos<s.size->K (.tup [.v (.bool true), .v (.int .i64 pos), .v (.int .i32 (Utf8.decode s pos).1)]) (aj H id (some (.iter b' s (pos+ (Utf8.decode s pos).2)))))/\(¬pos<s.size->K (.tup [.v (.bool false)]) H)
     | _=>False
   | _=>False
 | .append _ el n bytes x y=>uP n (ev a y) H λes2=>match ev a x with
   | .own id x=>match H id with
     |some (.row h p j es)=>h=x/\p=el/\j=n/\(es.length+es2.length) *bytes<=140737488355328/\es.length+es2.length<=140737488355328/\∀v,K (.own id v) (aj H id (some (.row v el n (es++es2))))
     | _=>False
   | .v (.slice none 0 0)=>match dst with
     |some t=>es2.length*bytes<=140737488355328/\es2.length<=140737488355328/\∀v,K (.own t v) (aj H t (some (.row v el n es2)))
     |none=>False
   | .sub id x j lo hi=>match H id with
     |some (.row h p k es)=>h=x/\p=el/\j=n/\k=n/\lo=0/\(hi+es2.length) *bytes<=140737488355328/\hi+es2.length<=140737488355328/\∀v,K (.own id v) (aj H id (some (.row v el n (es.take hi++es2))))
     | _=>False
   | _=>False
 | .appmk el n bytes agg z x c=>match ev a x with
   | .v (.slice none 0 0)=>match dst,mM (ev a c)with
     |some t,some (_,c)=>0<=c/\c*bytes<=140737488355328/\c<=140737488355328/\∀v,K (.own t v) (aj H t (some (.row v el n (List.replicate c.toNat (XA agg z)))))
     | _,_=>False
   | _=>False
 | .clear n agg z x=>match ev a x with
   | .own id x=>match H id with
     |some (.row h el j es)=>h=x/\j=n/\K (.tup []) (aj H id (some (.row h el j (List.replicate es.length (XA agg z)))))
     | _=>False
   | .sub id x j lo hi=>match H id with
     |some (.row h el k es)=>h=x/\j=n/\k=n/\K (.tup []) (aj H id (some (.row h el k (es.take lo++List.replicate (hi -lo) (XA agg z) ++es.drop hi))))
     | _=>False
   | .v (.slice none 0 0)=>K (.tup []) H
   | _=>False
 | .copy n x y=>mQ n (ev a y) H λsrc=>match ev a x with
   | .own id x=>match H id with
     |some (.row h el j es)=>h=x/\j=n/\K (.v (.int .i64 (min src.length es.length:Nat))) (aj H id (some (.row h el j (src.take es.length++es.drop src.length))))
     | _=>False
   | .sub id x j lo hi=>match H id with
     |some (.row h el k es)=>h=x/\j=n/\k=n/\K (.v (.int .i64 (min src.length (hi -lo):Nat))) (aj H id (some (.row h el k (es.take lo++src.take (hi -lo) ++es.drop (lo+min src.length (hi -lo))))))
     | _=>False
   | _=>False
 | .m o xs=>iR o (xs.map (ev a)) dst H K
 |c=>ak c a H λd=>K d H
end
section
def COp.isCall:COp->Bool
 | .call _ _| .callv _ _| .callb _ _ _=>true
 | _=>false
def COp.isRead:COp->Bool
 | .call _ _| .callv _ _| .callb _ _ _| .alloc _ _| .box _ false _| .tbx _ _| .nslice _ _| .mslice .. | .mkslice .. | .store .. | .append .. | .appmk .. | .clear .. | .copy .. | .srange .. | .snext .. =>false
 | .m o _=>o.isRead
 | _=>true
@[simp] theorem qa7(b:Option Nat)(f:Nat)(args:List Operand):(qdt b f args).isCall=true:=by cases b<;>rfl
@[simp] theorem qa6(b:Option Nat)(f:Nat)(args:List Operand):(qdt b f args).isRead=false:=by cases b<;>rfl
end
section
def Good(P:Program)(o:Oper)(a:Act)(tp I:Nat->Prop)(w:World)(K:D->Prop):Prop:=
 ∃x d,(execOp a.eval o).run P w= .ok (.value x) w/\R tp I w x d/\K d
section
variable {P:Program}{o:Oper}{a:Act}{tp I:Nat->Prop}{w:World}{σ:Sg}{K:D->Prop}
theorem R.inv_v{x y:Value}(h:R tp I w x (.v y)):x=y:=by cases h;rfl
def R.inv_agg{x:Value}{cs:List D}(h:R tp I w x (.agg cs)):∃xs:List Value,x= .agg xs.toArray/\xs.length=cs.length/\aS (R tp I w) xs cs:=by
 cases h with
 |agg xs cs hl h1 h=>exact⟨xs,rfl,hl,λk y c b hc=>⟨h1 y (qF7 b),h k y c b hc⟩⟩
def R.int(k:IntKind)(n:Int):R tp I w (.int k n) (.v (.int k n)):= .v _ rfl (λs h=>by cases h)
def R.bool(b:Bool):R tp I w (.bool b) (.v (.bool b)):= .v _ rfl (λs h=>by cases h)
def R.str(s:ByteArray)(h:s.size<=maxLen):R tp I w (.string s) (.v (.string s)):= .v _ rfl (λb c=>by grind)
def R.inv_str{x:Value}{s:ByteArray}(h:R tp I w x (.v (.string s))):x= .string s/\s.size<=maxLen:=by
 cases h<;>grind
def qpW(x:Value)(h:∀s,x= .string s->s.size<=maxLen):R tp I w x (rk x):=by
 cases x<;>first|exact .any _|exact .v _ rfl h
theorem qdj(b:∀t,R tp I w (a.tmps.getD t undef) (σ t))(x:Operand)(d:BO x=true):R tp I w (a.eval x) (ev σ x):=by
 cases x with
 |tmp t=>exact b t
 | const x=>
   refine qpW x (λs hs=>?_);subst hs;have:s.size<=1000000:=by grind [BO]
   grind [maxLen]
 |global g=>exact .v _ rfl (λs h=>by cases h)
 |func f=>exact .clo f [] [] rfl (λk x c h=>by simp)
def qeX{x:Operand}(ho:o.op= .move x\/o.op= .assign x)(b:R tp I w (a.eval x) (ev σ x))(c:K (ev σ x)):Good P o a tp I w K:=by
 refine⟨a.eval x,ev σ x,?_,b,c⟩;rcases ho with ho|ho<;>simp[execOp,ho]
def qgX{c x y:Operand}(ho:o.op= .pick c x y)(hc:R tp I w (a.eval c) (ev σ c))(d:R tp I w (a.eval x) (ev σ x))(h:R tp I w (a.eval y) (ev σ y)){H:ab}
 (b:ak (.pick c x y) σ H K):Good P o a tp I w K:=by
 simp only[ak]at b;split at b
 ·rename_i t j;rw[j]at hc;have:=hc.inv_v;cases t
  ·exact⟨a.eval y,ev σ y,by simp_all [execOp,asBool],h,b.2 rfl⟩
  ·exact⟨a.eval x,ev σ x,by simp_all [execOp,asBool],d,b.1 rfl⟩
 grind
def qc1{x:Operand}(ho:o.op= .nilCheck x)(b:R tp I w (a.eval x) (ev σ x)){H:ab}(c:ak (.nilck x) σ H K):Good P o a tp I w K:=by
 simp only[ak]at c;generalize d:a.eval x=q at b;split at c<;>first|exact c.elim|skip
 all_goals
  rename_i e;rw[e]at b;refine⟨q,_,?_,b,c⟩;cases b<;>simp[execOp,ho,d]
theorem iT{op:BinOp}{t u:TypeId}{x y:Operand}(ho:o.op= .binOp op t x y u)(c:op= .add\/op= .sub\/op= .mul\/op= .quo\/op= .rem\/op= .and\/op= .or\/op= .shl\/op= .shr)
 (h:R tp I w (a.eval x) (ev σ x)) (j:R tp I w (a.eval y) (ev σ y)) {H:ab} (b:ak (.arith op x y) σ H K):Good P o a tp I w K:=by
 simp only[ak]at b;split at b
 ·rename_i k p l q r s;rw[r]at h;rw[s]at j;have h1:=h.inv_v;have h2:=j.inv_v;obtain⟨hk,b⟩:=b;rcases c with rfl|rfl|rfl|rfl|rfl|rfl|rfl|rfl|rfl<;>simp only[gW]at b<;>first|(have d:k=l:=hk;subst d)|skip
  ·exact⟨_,_,by simp[execOp,ho,h1,h2,eqGuard,binOp,Op.intArith,b.1.wrap], .int _ _,b.2⟩
  ·exact⟨_,_,by simp[execOp,ho,h1,h2,eqGuard,binOp,Op.intArith,b.1.wrap], .int _ _,b.2⟩
  ·exact⟨_,_,by simp[execOp,ho,h1,h2,eqGuard,binOp,Op.intArith,b.1.wrap], .int _ _,b.2⟩
  ·exact⟨_,_,by simp[execOp,ho,h1,h2,eqGuard,binOp,Op.intDiv,b.1,b.2.1.wrap], .int _ _,b.2.2⟩
  ·exact⟨_,_,by simp_all [execOp,eqGuard,binOp,Op.intDiv], .int _ _,b.2⟩
  ·exact⟨_,_,by simp_all [execOp,eqGuard,binOp,Op.intBits,qbn], .int _ _,b⟩
  ·exact⟨_,_,by simp_all [execOp,eqGuard,binOp,Op.intBits,qtc], .int _ _,b⟩
  ·exact⟨_,_,by simp[execOp,ho,h1,h2,eqGuard,binOp,Op.shift,U1,show ¬q< 0 by omega], .int _ _,b.2⟩
  ·exact⟨_,_,by simp[execOp,ho,h1,h2,eqGuard,binOp,Op.shift,qcn,show ¬q< 0 by omega], .int _ _,b.2⟩
 grind
theorem qaq{op:BinOp}{t u:TypeId}{x y:Operand}(ho:o.op= .binOp op t x y u)
 (c:R tp I w (a.eval x) (ev σ x)) (d:R tp I w (a.eval y) (ev σ y)) {H:ab} (b:ak (.cmp op x y) σ H K):Good P o a tp I w K:=by
 simp only[ak]at b;split at b
 ·rename_i k p l q h j;rw[h]at c;rw[j]at d;have h1:=c.inv_v;have h2:=d.inv_v;obtain⟨rfl,b⟩:=b;cases op<;>simp only[Xa]at b<;>first
   |exact b.elim
   |exact⟨_,_,by simp_all [execOp,eqGuard,binOp,Op.intCmp], .bool _,b⟩
 ·rename_i p q h j;rw[h]at c;rw[j]at d;have h1:=c.inv_v;have h2:=d.inv_v;cases op<;>simp only[qa1]at b<;>first
   |exact b.elim
   |exact⟨_,_,by simp_all [execOp,eqGuard,binOp,Op.stringOp], .bool _,b⟩
 grind
def qgV{t u:TypeId}{x y:Operand}(ho:o.op= .binOp .add t x y u)
 (c:R tp I w (a.eval x) (ev σ x)) (d:R tp I w (a.eval y) (ev σ y)) {H:ab} (b:ak (.scat x y) σ H K):Good P o a tp I w K:=by
 simp only[ak]at b;split at b
 ·rename_i p q h j;rw[h]at c;rw[j]at d;have h1:=c.inv_v;have h2:=d.inv_v;obtain⟨hb,b⟩:=b;have hn:¬((p.size:Int) +q.size > 9223372036854775807):=by omega
  refine⟨.string (p++q),_,?_, .str _ (by grind [maxLen]),b⟩;have:¬(9223372036854775807<(p.size:Int) +q.size):=by omega
  simp_all [execOp,eqGuard,binOp,Op.stringOp]
 grind
def qkp{t:TypeId}{x:Operand}(ho:o.op= .unOp .not t x)(d:R tp I w (a.eval x) (ev σ x)){H:ab}(c:ak (.not x) σ H K):Good P o a tp I w K:=by
 simp only[ak]at c;split at c
 ·rename_i b h;rw[h]at d;have h1:=d.inv_v;exact⟨_,_,by simp_all [execOp,Op.unary], .bool _,c⟩
 grind
def qkq{t:TypeId}{x:Operand}(ho:o.op= .unOp .neg t x)(c:R tp I w (a.eval x) (ev σ x)){H:ab}(b:ak (.neg x) σ H K):Good P o a tp I w K:=by
 simp only[ak]at b;split at b
 ·rename_i k n d;rw[d]at c;have h1:=c.inv_v;have h2:=b.1.wrap;exact⟨.int k (0 -n),_,by simp_all [execOp,Op.unary,Op.intArith], .int _ _,b.2⟩
 grind
def qg1{s t:TypeId}{k d:IntKind}{x:Operand}(ho:o.op= .convert s t x)(hs:P.underlying s=some (.int d))(j:P.underlying t=some (.int k))
 (c:R tp I w (a.eval x) (ev σ x)) {H:ab} (b:ak (.conv k x) σ H K):Good P o a tp I w K:=by
 simp only[ak]at b;split at b
 ·rename_i l n h;rw[h]at c;have h1:=c.inv_v;exact⟨.int k (k.wrap n),_,by simp_all [execOp,convert,Conv.intToInt,run_underlying], .int _ _,b⟩
 grind
def qpB:∀{cs:List D} {xs b:List Value},qx3 cs=some xs->b.length=cs.length->(∀(k:Nat) (x:Value) (c:D),b[k]? =some x->cs[k]? =some c->R tp I w x c)->b=xs
 | [],xs,b,h,hl,d=>by
   cases h<;>grind
 |c::cs,xs, [],h,hl,d=>by grind
 | c::cs,xs,y::b,h,hl,d=>by
   cases c<;>simp only[qx3]at h<;>try (cases h;done)
   rename_i v;obtain⟨j,h1,rfl⟩:=qGe.1 h;have h0:=(d 0 y (.v v) rfl rfl).inv_v;rw[h0,qpB h1 (by grind) λk x c l hc=>d (k+1) x c l hc]
def qgZ{t:TypeId}{x:Operand}{fs:Array Field}(ho:o.op= .makeInterface t x)(l:P.underlying t=some (.struct fs))(c:R tp I w (a.eval x) (ev σ x)){H:ab}(b:ak (.mkif t x) σ H K):Good P o a tp I w K:=by
 simp only[ak]at b;split at b
 ·rename_i cs j;rw[j]at c;split at b
  ·rename_i xs d;generalize p:a.eval x=q at c;cases c with
   | agg k _ hl h1 h=>
     have:=qpB d hl h;subst this;refine⟨.iface t (.agg k.toArray),_,?_, .v _ rfl (λs hs=>by grind),b⟩;simp_all [execOp,Instr.makeInterface,run_underlying]
  grind
 grind
def qku{f:Nat}{first caps:Array Operand}(ho:o.op= .makeFunc (.func f) first caps)(h:first.isEmpty=true)(c:∀x∈caps.toList,R tp I w (a.eval x) (ev σ x)){H:ab}(b:ak (.clo f caps.toList) σ H K):Good P o a tp I w K:=by
 simp only[ak]at b;have d:first= #[]:=by grind
 obtain⟨caps⟩:=caps;simp only at b c;refine⟨.func (.func f) #[] (caps.map a.eval).toArray,_,by simp_all [execOp,Instr.makeFunc], .clo f _ _ (by simp) ?_,b⟩;grind
def qkt{x:Operand}{i:Nat}(ho:o.op= .extract x i)(c:R tp I w (a.eval x) (ev σ x)){H:ab}(b:ak (.ext x i) σ H K):Good P o a tp I w K:=by
 simp only[ak]at b;split at b
 ·rename_i ds j;split at b
  ·rename_i d k;rw[j]at c;generalize l:a.eval x=q at c;cases c with
   | tup xs ds hl h=>
     have hi:i<xs.length:=by grind
     refine⟨xs[i],d,by simp[execOp,ho,l,Instr.extract,hi],h i _ d (by simp) k,b⟩
  grind
 grind
end
section
variable {P:Program}{o:Oper}{a:Act}{tp I:Nat->Prop}{w:World}{σ:Sg}{K:D->Prop}
def uE{t:TypeId}{b:Bool}(h:gS P t=some b)(w:World):(isAgg t).run P w= .ok b w:=by
 unfold gS at h;cases c:P.underlying t with
 |none=>grind
 | some d=>
   rw[c]at h;unfold isAgg;rw[qGs,run_underlying c w];cases d<;>simp at h<;>subst h<;>simp
def aZ{t:TypeId}{n:Nat}(h:cx P t=some n)(w:World):(sizeOf t).run P w= .ok n w:=by
 unfold cx at h;cases b:P.info? t<;>simp_all [sizeOf,typeInfo]
theorem lC(b o n:Nat):(⟨b,o,none⟩:Addr).add n=⟨b,o+n,none⟩:=Addr.add_lit b o n
theorem qj7{t:TypeId}{agg:Bool}{sz:Nat}(r:gS P t=some agg)(hs:cx P t=some sz)(h1:(agg||sz=1)=true){cs:List D}{off b base:Nat}{f:Nat->Value}(hlen:off+sz<=cs.length)
 (hcell:∀(k:Nat) (c:D),cs[k]? =some c->w.cell? ⟨b,base+k,none⟩=some (f k))
 (l:∀(k:Nat) (c:D),cs[k]? =some c->(f k).oneCell'=true)
 (h:∀(k:Nat) (c:D),cs[k]? =some c->R tp I w (f k) c):
 ∃x,(loadVar t ⟨b,base+off,none⟩).run P w= .ok x w/\R tp I w x (Nb agg sz cs off):=by
 have at_:∀j,j<sz->∃c,cs[off+j]? =some c:=λj p=>⟨cs[off+j]'(by omega),qF6 (by omega)⟩
 have hl:(loadCells ⟨b,base+off,none⟩ sz).run P w= .ok ((List.range sz).map λj=>f (off+j)).toArray w:=
  run_loadCells w _ sz _ (λj p=>by
   grind [gS,cx,lC])
 cases agg with
 | true=>
   refine⟨.agg ((List.range sz).map λj=>f (off+j)).toArray,by simp_all [loadVar,uE,aZ],?_⟩;simp only[Nb,if_true];refine .agg _ _ (by grind) (λx q=>?_) (λk x c q hc=>?_);grind;grind
 | false=>
   have d:sz=1:=by grind
   subst d;obtain⟨c,hc⟩:=at_ 0 (by omega);simp_all [loadVar,uE,Nb]
def zJ{xs:Array Value}{cells:List D}{b el:Nat}(j:w.heap[b]? =some (.cells xs el (0,0)))(hl:xs.size=cells.length)(hc:aS (R tp I w) xs.toList cells):
 ∃f:Nat->Value,(∀(k:Nat) (c:D),cells[k]? =some c->w.cell? ⟨b,0+k,none⟩=some (f k))/\(∀(k:Nat) (c:D),cells[k]? =some c->(f k).oneCell'=true)/\(∀(k:Nat) (c:D),cells[k]? =some c->R tp I w (f k) c):=by
 refine⟨λk=>xs.getD k undef,λk c hk=>?_,λk c hk=>?_,λk c hk=>?_⟩
 all_goals
  have h:k<xs.size:=by grind
  have l:xs[k]? =some xs[k]:=by simp
  have d:xs.getD k undef=xs[k]:=by simp[Array.getD,h]
 ·dsimp only;rw[Nat.zero_add,cell_of_row w b k xs el (0,0) j,l,d]
 grind [aS]
 ·dsimp only;rw[d];exact(hc k _ c (by simp) hk).2
theorem qf9{xs:List Value}{x:Value}{el n:Nat}{es:List D}(ho:w.ownsRow 0 el n x es.length xs)(hn:∀d∈es,d.kn=true/\d.cells.length=n)(hc:aS (R tp I w) xs (bq es))
 {i:Nat} {d:D} (hi:es[i]? =some d) {b:Nat} (hb:x.ownBlock=some b):
 ∃f:Nat->Value,(∀(k:Nat) (c:D),d.cells[k]? =some c->w.cell? ⟨b,i*n+k,none⟩=some (f k))/\(∀(k:Nat) (c:D),d.cells[k]? =some c->(f k).oneCell'=true)/\(∀(k:Nat) (c:D),d.cells[k]? =some c->R tp I w (f k) c):=by
 have q:d.cells.length=n:=(hn d (qF7 hi)).2;have j:=ba (es:=es) (λd r=>(hn d r).2);have s:i<es.length:=(qF4.1 hi).1;have key:∀(k:Nat) (c:D),d.cells[k]? =some c->∃y,xs[i*n+k]? =some y/\(bq es)[i*n+k]? =some c:=by
  intro k c hk;have t:k<n:=by grind
  have l:(bq es)[i*n+k]? =some c:=by grind [ij]
  have u:i*n+k<xs.length:=by
   have:=(qF4.1 l).1;rw[ho.1,<-j];omega
  simp_all
 refine⟨λk=>xs.getD (i*n+k) undef,λk c hk=>?_,λk c hk=>?_,λk c hk=>?_⟩
 all_goals
  obtain⟨y,p,l⟩:=key k c hk;have h:xs.getD (i*n+k) undef=y:=by grind
 ·dsimp only;rw[h];have:=ho.cells hb _ _ p;simp_all [lC]
 grind [aS]
 ·dsimp only;rw[h];exact(hc _ _ c p l).2
theorem Tx{t:TypeId}{agg:Bool}{sz:Nat}{x:Operand}(ho:o.op= .load t x)(O:gS P t=some agg)(hs:cx P t=some sz)(h1:(agg||sz=1)=true)(l:R tp I w (a.eval x) (ev σ x)){H Hr:ab}
 (p:∀i r,Hr i=some r->H i=some r) (d:∀i r,H i=some r->ResOk (R tp I w) w r) (j:ak (.load agg sz x) σ Hr K):Good P o a tp I w K:=by
 simp only[ak]at j;generalize W:a.eval x=q at l;have tD:∀(b base off:Nat) (cs:List D) (f:Nat->Value),q= .pointer (some ⟨b,base+off,none⟩)->off+sz<=cs.length->(∀(k:Nat) (c:D),cs[k]? =some c->w.cell? ⟨b,base+k,none⟩=some (f k))->
  (∀(k:Nat) (c:D),cs[k]? =some c->(f k).oneCell'=true)->(∀(k:Nat) (c:D),cs[k]? =some c->R tp I w (f k) c)->K (Nb agg sz cs off)->Good P o a tp I w K:=by
  intro b base off cs f Q hlen s u A hk;obtain⟨y,Y,S⟩:=qj7 (P:=P) O hs h1 hlen s u A;exact⟨y,_,by simp_all [execOp,Instr.loadAt,Instr.sureAddr],S,hk⟩
 split at j
 ·rename_i cs off C;rw[C]at l;cases l with
  |cptr b base _ _ f hI hz hcell E h=>exact tD b base off cs f rfl j.1 hcell E h j.2
 ·rename_i id b off C;rw[C]at l;cases l;split at j
  ·rename_i b' cells F;obtain⟨rfl,hlen,hk⟩:=j;obtain⟨xs,el,J,L,M⟩:=d _ _ (p _ _ F);obtain⟨f,s,u,A⟩:=zJ J L M;exact tD b' 0 off cells f (by simp) hlen s u A hk
  grind
 ·rename_i id y n i off C;rw[C]at l;cases l with
  | eptr _ b len cap _ _ _=>
    split at j
    ·rename_i Z el U es F;obtain⟨rfl,rfl,hlen,hi,hk⟩:=j;obtain⟨xs,J,L,M⟩:=d _ _ (p _ _ F);have N:es[i]? =some es[i]:=by simp
     obtain⟨f,s,u,A⟩:=qf9 J L M N (b:=b) rfl;exact tD b (i*U) off es[i].cells f rfl (by grind) s u A (hk _ N)
    grind
 grind
theorem qks{t:TypeId}{fs:Array Field}{fi:Nat}{fd:Field}{agg:Bool}{sz:Nat}{x:Operand}(ho:o.op= .field t x fi)(u:P.underlying t=some (.struct fs))(A:fs[fi]? =some fd)
 (C:gS P fd.type=some agg) (hs:cx P fd.type=some sz) (h1:(agg||sz=1)=true) (r:R tp I w (a.eval x) (ev σ x)) {H:ab} (j:ak (.fld agg sz fd.offset x) σ H K):Good P o a tp I w K:=by
 simp only[ak]at j;split at j
 ·rename_i cs E;rw[E]at r;obtain⟨xs,F,hl,hc⟩:=r.inv_agg;obtain⟨hlen,hk⟩:=j;cases agg with
  | true=>
    refine⟨.agg ((xs.drop fd.offset).take sz).toArray,_,?_,?_,hk⟩
    ·simp only[execOp,ho,F,Instr.field,asAgg,qGs,run_underlying u,qGj,A,part,uE C,aZ hs,qGy,if_true];simp
    ·simp only[Nb,if_true];refine .agg _ _ (by grind) (λy h=>?_) (λk y c h d=>?_)
     ·have l:=qGO (qGq h);obtain⟨k,p⟩:=qGp.1 l;have b:k<cs.length:=by grind
      exact(hc k y _ p (qF6 b)).1
     ·rw[qGo]at h d;split at h
      ·rename_i b;rw[if_pos b]at d;rw[qG8]at h d;exact(hc _ y c h d).2
      grind
  | false=>
    have q:sz=1:=by grind
    subst q;have b:fd.offset<cs.length:=by omega
    have s:fd.offset<xs.length:=by omega
    refine⟨xs[fd.offset],_,?_,?_,hk⟩;simp_all [execOp,Instr.field,asAgg,part,run_underlying,uE]
    ·simp only[Nb,qGQ,if_false,qF6 b,qGJ];exact(hc fd.offset _ _ (by simp) (by simp)).2
 grind
theorem vz{d:Nat}{x:Operand}(run:∀b off,a.eval x= .pointer (some ⟨b,off,none⟩)->(execOp a.eval o).run P w= .ok (.value (.pointer (some ⟨b,off+d,none⟩))) w)
 (c:R tp I w (a.eval x) (ev σ x)) {H:ab} (j:ak (.faddr d x) σ H K):Good P o a tp I w K:=by
 simp only[ak]at j;generalize p:a.eval x=q at c run;split at j
 ·rename_i cs off k;rw[k]at c;cases c with
  | cptr b base _ _ f hI hz hcell l h=>
    refine⟨_,_,run _ _ rfl,?_,j⟩;rw[qId];exact .cptr b base cs _ f hI hz hcell l h
 ·rename_i id b off k;rw[k]at c;cases c;exact⟨_,_,run _ _ rfl, .bptr _ _ _,j⟩
 ·rename_i id y n i off k;rw[k]at c;cases c with
  | eptr _ b len cap _ _ _=>
    refine⟨_,_,run _ _ rfl,?_,j⟩;rw[qId];exact .eptr id b len cap n i _
 grind
def qc3{t:TypeId}{fs:Array Field}{fi:Nat}{fd:Field}{sz:Nat}{x:Operand}(ho:o.op= .fieldAddr t x fi)(j:P.underlying t=some (.struct fs))(k:fs[fi]? =some fd)
 (hs:cx P fd.type=some sz) (h0:0<sz) (c:R tp I w (a.eval x) (ev σ x)) {H:ab} (d:ak (.faddr fd.offset x) σ H K):Good P o a tp I w K:=by
 have h:sz≠0:=by omega
 refine vz (λb off hb=>?_) c d;simp_all [execOp,Instr.fieldAt,Instr.sureAddr,fieldPlace,lC,run_underlying,aZ]
def qc6{t el:TypeId}{len sz:Nat}{k:Int}{x:Operand}(ho:o.op= .indexAddr t x (.const (.int .i64 k)))(c:P.underlying t=some (.array len el))(hs:cx P el=some sz)(h0:0<=k/\k<len)
 (d:R tp I w (a.eval x) (ev σ x)) {H:ab} (h:ak (.faddr (k.toNat*sz) x) σ H K):Good P o a tp I w K:=by
 refine vz (λb off hb=>?_) d h;have hc:a.eval (.const (.int .i64 k))= .int .i64 k:=rfl;simp[execOp,ho,hc,hb,Instr.indexAt,asIntOf,run_underlying c,Instr.sureAddr,h0.1,h0.2,aZ hs,lC]
theorem qc2{t el:TypeId}{n:Nat}{x i:Operand}(ho:o.op= .indexAddr t x i)(O:P.underlying t=some (.slice el))(hs:cx P el=some n)
 (s:R tp I w (a.eval x) (ev σ x)) (hi:R tp I w (a.eval i) (ev σ i)) {H Hr:ab} (L:∀i r,Hr i=some r->H i=some r) (A:∀i r,H i=some r->ResOk (R tp I w) w r)
 (u:ak (.iaddr n x i) σ Hr K):Good P o a tp I w K:=by
 simp only[ak]at u;generalize Q:a.eval x=q at s;split at u
 ·rename_i kk k S;rw[S]at hi;have M:=hi.inv_v;have run:∀b off len cap,q= .slice (some ⟨b,off,none⟩) len cap->0<=k->k<len->(execOp a.eval o).run P w= .ok (.value (.pointer (some ⟨b,off+k.toNat*n,none⟩))) w:=by
   intro b off len cap hb h0 h1;simp[execOp,ho,Q,M,hb,Instr.indexAt,asIntOf,run_underlying O,h0,h1,aZ hs,lC]
  split at u
  ·rename_i d es C;rw[C]at s;obtain⟨rfl,h0,h1,hk⟩:=u;cases s with
   |nolist=>grind
   | list b off cap _ _ f hI hc hm hz hn hcell l h=>
     have E:k.toNat<es.length:=by omega
     have U:es[k.toNat]? =some es[k.toNat]:=by simp
     refine⟨_,_,run b off _ cap rfl h0 h1,?_,hk _ U⟩;have F:∀(j:Nat) (c:D),es[k.toNat].cells[j]? =some c->(bq es)[k.toNat*d+j]? =some c:=λj c J=>by
      grind [ResOk,ij]
     exact .cptr b (off+k.toNat*d) es[k.toNat].cells 0 (λj=>f (k.toNat*d+j)) hI (by grind) (λj c J=>by grind) (λj c J=>l _ c (F j c J)) (λj c J=>h _ c (F j c J))
  ·rename_i id y C;rw[C]at s;cases s with
   | own _ _ l=>
     split at u
     ·rename_i x' W d es Y;obtain⟨rfl,rfl,h0,h1,hk⟩:=u;obtain⟨xs,⟨Z,N⟩,g3⟩:=A _ _ (L _ _ Y);rcases N with⟨_,h4⟩|⟨g,cap,cur,rfl,_⟩
      omega
      ·refine⟨_,_,run g 0 _ cap rfl h0 h1,?_,hk⟩;rw[qGS,<-qHq (k.toNat*d)];exact .eptr id g _ cap d k.toNat 0
     grind
  ·rename_i id y d lo hi C;rw[C]at s;obtain⟨rfl,h0,h1,hk⟩:=u;cases s with
   |subnil=>omega
   | sub _ b len cap _ _ _ p Z N g3 hm hp=>
     have E:lo<cap:=by omega
     have:=hp (.inl E);subst this;refine⟨_,_,run b (lo*d) _ _ rfl h0 h1,?_,hk⟩;rw[<-qHy,<-qHq ((lo+k.toNat) *d)];exact .eptr id b len cap d (lo+k.toNat) 0
  grind
 grind
theorem qgU{t:TypeId}{x i:Operand}(ho:o.op= .index t x i)(y:P.underlying t=some .string)
 (h:R tp I w (a.eval x) (ev σ x)) (hi:R tp I w (a.eval i) (ev σ i)) {H:ab} (d:ak (.sidx x i) σ H K):Good P o a tp I w K:=by
 simp only[ak]at d;split at d
 ·rename_i A k l;rw[l]at hi;have p:=hi.inv_v;split at d
  ·rename_i s q;rw[q]at h;have r:=h.inv_v;obtain⟨h0,h1,hk⟩:=d;have b:k.toNat<s.size:=by omega
   have j:k.toNat<s.data.size:=b;have c:s.data[k.toNat]? =some s.data[k.toNat]:=by simp
   refine⟨.int .u8 (s.data[k.toNat]).toNat,_,?_, .int _ _,hk _ c⟩;have u:s[k.toNat]? =some (s.data[k.toNat]):=by
    rw[getElem?_pos s k.toNat b];rfl
   simp_all [execOp,Instr.index,asIntOf,run_underlying]
  grind
 grind
theorem qkr{t e:TypeId}{c:Call}{x:Operand}(ho:o.op= .call c)(hc:c.callee= .builtin .len)(s:c.argTypes.toList=[t])(d:c.args.toList=[x])(J:P.underlying t=some (.slice e))
 (j:R tp I w (a.eval x) (ev σ x)) {H Hr:ab} (E:∀i r,Hr i=some r->H i=some r) (u:∀i r,H i=some r->ResOk (R tp I w) w r)
 (k:ak (.len x) σ Hr K):Good P o a tp I w K:=by
 obtain⟨cl,⟨args⟩,⟨L⟩⟩:=c;simp only at s d hc;subst s;subst d;subst hc;simp only[ak]at k;generalize M:a.eval x=q at j;have run:∀b n cap,q= .slice b n cap->(execOp a.eval o).run P w= .ok (.value (.int .i64 n)) w:=by
  intro b n cap hb;simp[execOp,ho,resolve,invoke,builtin,M,hb,Builtin.len_,run_underlying J,goInt]
 split at k
 ·rename_i n es l;rw[l]at j;cases j with
  |nolist b cap _=>exact⟨_,_,run b 0 cap rfl, .int _ _,by grind⟩
  |list b off cap _ _ f hI A hm hz hn hcell C h=>exact⟨_,_,run _ _ _ rfl, .int _ _,k (by grind [ResOk,D,ev,PlainB,maxLen])⟩
 ·rename_i id y l;rw[l]at j;cases j with
  | own _ _ C=>
    split at k
    ·rename_i U el N es O;obtain⟨rfl,hk⟩:=k;obtain⟨xs,⟨Q,F⟩,S⟩:=u _ _ (E _ _ O);rcases F with⟨rfl,h4⟩|⟨g,cap,cur,rfl,_,_,A,hm,_⟩
     ·have:es=[]:=qGk h4;subst this;exact⟨_,_,run _ 0 _ rfl, .int _ _,by grind⟩
     ·exact⟨_,_,run _ _ _ rfl, .int _ _,hk (by grind [maxLen])⟩
    grind
 ·rename_i l;rw[l]at j;have:=j.inv_v;exact⟨_,_,run _ _ _ this, .int _ _,k⟩
 ·rename_i id y N lo hi l;rw[l]at j;cases j with
  |subnil=>exact⟨_,_,run _ 0 _ rfl, .int _ _,by grind⟩
  |sub _ b len cap _ _ _ p Q F S hm hp=>exact⟨_,_,run _ _ _ rfl, .int _ _,k (by grind [maxLen])⟩
 grind
def qkv{t e:TypeId}{c:Call}{x:Operand}(ho:o.op= .call c)(hc:c.callee= .builtin .cap)(d:c.argTypes.toList=[t])(b:c.args.toList=[x])(k:P.underlying t=some (.slice e))
 (j:R tp I w (a.eval x) (ev σ x)) {Hr:ab} (h:ak (.cap x) σ Hr K):Good P o a tp I w K:=by
 obtain⟨cl,⟨args⟩,⟨l⟩⟩:=c;simp only at d b hc;subst d;subst b;subst hc;simp only[ak]at h;split at h
 ·rename_i p;rw[p]at j;have:=j.inv_v;refine⟨.int .i64 0,_,?_, .int _ _,h⟩;simp[execOp,ho,resolve,invoke,builtin,this,Builtin.cap_,run_underlying k,goInt]
 grind
def qgT{t:TypeId}{c:Call}{x:Operand}(ho:o.op= .call c)(hc:c.callee= .builtin .len)(d:c.argTypes.toList=[t])(b:c.args.toList=[x])(k:P.underlying t=some .string)
 (j:R tp I w (a.eval x) (ev σ x)) {H:ab} (h:ak (.slen x) σ H K):Good P o a tp I w K:=by
 obtain⟨cl,⟨args⟩,⟨l⟩⟩:=c;simp only at d b hc;subst d;subst b;subst hc;simp only[ak]at h;split at h
 ·rename_i s p;rw[p]at j;obtain⟨h1,h2⟩:=j.inv_str;refine⟨.int .i64 s.size,_,?_, .int _ _,h (by grind [maxLen])⟩;simp[execOp,ho,resolve,invoke,builtin,h1,Builtin.len_,run_underlying k,goInt]
 grind
theorem qga{xs:List Value}{es:List D}(hl:xs.length=es.length)(hb:qpX es=true)(h:∀(k:Nat) (y:Value) (c:D),xs[k]? =some y->es[k]? =some c->R tp I w y c):
 ∃b:List Int,xs=b.map (Value.int .u8)/\b.map (λn=>UInt8.ofNat n.toNat)=es.map λd=>(qdw d).getD 0:=by
 induction xs generalizing es with
 | nil=>
   have:es=[]:=qGk (by grind);simp_all
 | cons x xs l=>
   cases es with
   |nil=>grind
   | cons d es=>
     simp only[qpX,qHG,qF9]at hb;obtain⟨b,h1,h2⟩:=l (es:=es) (by grind) hb.2 (λk y c q hc=>h (k+1) y c (by grind) (by grind));have p:=h 0 x d rfl rfl;cases j:qdw d with
     |none=>grind
     | some c=>
       unfold qdw at j;split at j
       ·rename_i n;cases j;have:=p.inv_v;subst this;refine⟨n::b,by grind,?_⟩;simp only[qGG,h2];rfl
       grind
def qbg:∀{es:List D},qpX es=true->bq es=es
 | [],_=>rfl
 | d::es,hb=>by
   simp only[qpX,qHG,qF9]at hb;have b:=hb.1;have:d.cells=[d]:=by
    cases d<;>first|rfl|grind [qdw]
   have c:=qbg (es:=es) hb.2;grind [bq]
def qdb(l:List Int):∀s:ByteArray,l.foldl (λr n=>r.push (UInt8.ofNat n.toNat)) s=⟨s.data++ (l.map λn=>UInt8.ofNat n.toNat).toArray⟩:=by
 induction l<;>simp_all
def qaF(n:Int):(Utf8.encode n).size<=4:=by
 unfold Utf8.encode;simp only;generalize (if Utf8.valid n=true then n.toNat else Utf8.runeError)=c;split
 ·exact qF8 rfl
 ·split
  ·exact qF8 rfl
  ·split<;>exact qF8 rfl
def qgW{t u:TypeId}{k:IntKind}{x:Operand}(ho:o.op= .convert t u x)(h:P.underlying t=some (.int k))(j:P.underlying u=some .string)
 (c:R tp I w (a.eval x) (ev σ x)) {H:ab} (b:ak (.rstr x) σ H K):Good P o a tp I w K:=by
 simp only[ak]at b;split at b
 ·rename_i l n d;rw[d]at c;have h1:=c.inv_v;refine⟨_,_,?_, .str (Utf8.encode n) (qGA (qaF n) (qF8 rfl)),b⟩;simp_all [execOp,convert,Conv.intToString,run_underlying]
 grind
theorem qg2{t u el:TypeId}{x:Operand}(ho:o.op= .convert t u x)(M:P.underlying t=some (.slice el))(N:P.underlying u=some .string)(he:P.underlying el=some (.int .u8))
 (l:R tp I w (a.eval x) (ev σ x)) {H Hr:ab} (C:∀i r,Hr i=some r->H i=some r) (p:∀i r,H i=some r->ResOk (R tp I w) w r)
 (s:ak (.bstr x) σ Hr K):Good P o a tp I w K:=by
 simp only[ak]at s;generalize W:a.eval x=q at l;have nil:q= .slice none 0 0->(execOp a.eval o).run P w= .ok (.value (.string ⟨#[]⟩)) w:=λhb=>by
  have:=run_convert_bytes_string (P:=P) w t u el none 0 0 M he N;simp only[execOp,ho,W,hb,qGs,this,Conv.bytesToString,qGy,qGj];rfl
 split at s
 ·rename_i id y E;rw[E]at l;cases l with
  | own _ _ O=>
    split at s
    ·rename_i x' Y n' es Z;obtain⟨rfl,rfl,hb,hk⟩:=s;obtain⟨xs,h,g3,Q⟩:=p _ _ (C _ _ Z);have b:=λg hg=>h.cells (g:=g) hg
     obtain⟨g1,g2⟩:=h;have hfl:=ba (es:=es) (λd hd=>(g3 d hd).2);have A:xs.length=es.length:=by omega
     have F:bq es=es:=by
      exact qbg hb
     rw[F]at Q;obtain⟨S,h1,h2⟩:=qga A hb (λk y c hy hc=>(Q k y c hy hc).2);have hs:qsm es=⟨(S.map λn=>UInt8.ofNat n.toNat).toArray⟩:=by rw[h2];rfl
     have hsz:(qsm es).size=es.length:=by show((es.map λd=>(qdw d).getD 0).toArray).size=_;simp
     rcases g2 with⟨rfl,h4⟩|⟨g,cap,cur,rfl,_,_,U,hm,_⟩
     ·have J:es=[]:=qGk h4;subst J;exact⟨_,_,nil rfl, .str _ (by grind),hk⟩
     ·refine⟨.string (qsm es),_,?_, .str _ (by omega),hk⟩;have hc:=run_convert_bytes_string (P:=P) w t u el (some ⟨g,0,none⟩) es.length cap M he N;have hl:=run_loadCells_list (P:=P) w ⟨g,0,none⟩ xs (λj v hj=>b g rfl j v hj);rw[A,h1]at hl;have L:=run_bytesToString (P:=P) w ⟨g,0,none⟩ es.length cap S hl;rw[qdb,show ByteArray.empty.data= #[]from rfl,Array.empty_append,<-hs]at L;grind [execOp,Sem.run_bind,Sem.run_pure,Result.andThen_ok]
    grind
 ·rename_i E;rw[E]at l;have:=l.inv_v;exact⟨_,_,nil this, .str _ (by simp[ByteArray.size,maxLen]),s⟩
 grind
theorem qeY{mx:Bool}{c:Call}(ho:o.op= .call c)(hc:c.callee= .builtin (if mx then .max else .min))
 (j:∀x∈c.args.toList,R tp I w (a.eval x) (ev σ x)) {H:ab} (b:ak (.mm mx c.args.toList) σ H K):Good P o a tp I w K:=by
 obtain⟨cl,⟨args⟩,u⟩:=c;simp only at j hc b;subst hc
 match args,j,b with
 | [],_,b=>exact b.elim
 | [_],_,b=>exact b.elim
 | [x,y],j,b=>
   simp only[ak]at b;split at b
   ·rename_i k p A q s t;obtain⟨rfl,hk⟩:=b;have d:=j x (by simp);rw[s]at d;have h:=j y (by simp);rw[t]at h;have h1:=d.inv_v;have h2:=h.inv_v;refine⟨_,_,?_, .int _ _,hk⟩;cases mx
    ·simp[execOp,ho,resolve,invoke,builtin,h1,h2,Builtin.min_,Builtin.min2];omega
    ·simp[execOp,ho,resolve,invoke,builtin,h1,h2,Builtin.max_,Builtin.max2];omega
   grind
 | [x,y,z],j,b=>
   simp only[ak]at b;split at b
   ·rename_i k p A q C r s t E;obtain⟨rfl,rfl,hk⟩:=b;have d:=j x (by simp);rw[s]at d;have h:=j y (by simp);rw[t]at h;have l:=j z (by simp);rw[E]at l;have h1:=d.inv_v;have h2:=h.inv_v;have h3:=l.inv_v;refine⟨_,_,?_, .int _ _,hk⟩;cases mx
    ·simp[execOp,ho,resolve,invoke,builtin,h1,h2,h3,Builtin.min_,Builtin.min2];omega
    ·simp[execOp,ho,resolve,invoke,builtin,h1,h2,h3,Builtin.max_,Builtin.max2];omega
   grind
 | _::_::_::_::_,_,b=>exact b.elim
end
end
end Go.Gv
