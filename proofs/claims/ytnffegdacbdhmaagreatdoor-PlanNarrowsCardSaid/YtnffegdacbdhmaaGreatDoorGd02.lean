/- C -/
import Derived.Test.YtnffegdacbdhmaaGreatDoorGd01
set_option linter.all false
namespace Go.Gv
inductive XI where
 |int|str|bool
inductive KK where
 |int (k:IntKind)|str|bool|ptr
inductive MOp where
 |mk
 |look (ok agg ka:Bool) (ks:List KK) (z:List Value)
 |upd (ka:Bool) (ks:List KK)
 |del (ka:Bool) (ks:List KK)
 |rng
 |next
 |entry
 |len
 |aidx (len sz:Nat)
def MOp.isRead:MOp->Bool
 | .look .. | .entry| .len| .aidx .. =>true
 | _=>false
inductive COp where
 |mv (x:Operand)
 |pick (c x y:Operand)
 |alloc (el:Nat) (z:List Value)
 |box (el:Nat) (im:Bool) (x:Operand)
 |tbx (el:Nat) (x:Operand)
 |build (z:List Value) (parts:List (Nat×Nat×Operand))
 |bslice (el n:Nat) (parts:List Operand)
 |nslice (el n:Nat)
 |mslice (el n:Nat) (parts:List Operand)
 |load (agg:Bool) (sz:Nat) (x:Operand)
 |store (rt:Option Nat) (sz:Nat) (x y:Operand)
 |nilck (x:Operand)
 |arith (op:BinOp) (x y:Operand)
 |cmp (op:BinOp) (x y:Operand)
 |eql (neg agg:Bool) (ks:List XI) (x y:Operand)
 |scat (x y:Operand)
 |not (x:Operand)
 |neg (x:Operand)
 |conv (k:IntKind) (x:Operand)
 |clo (f:Nat) (caps:List Operand)
 |mkslice (el n bytes:Nat) (agg:Bool) (z:List Value) (l c:Operand)
 |slice (n:Nat) (x:Operand) (lo hi:Option Operand)
 |sslice (x:Operand) (lo hi:Option Operand)
 |faddr (off:Nat) (x:Operand)
 |fld (agg:Bool) (sz off:Nat) (x:Operand)
 |iaddr (n:Nat) (x i:Operand)
 |sidx (x i:Operand)
 |ext (x:Operand) (i:Nat)
 |len (x:Operand)
 |slen (x:Operand)
 |mm (mx:Bool) (xs:List Operand)
 |append (rt:Option Nat) (el n bytes:Nat) (x y:Operand)
 |appmk (el n bytes:Nat) (agg:Bool) (z:List Value) (x c:Operand)
 |clear (n:Nat) (agg:Bool) (z:List Value) (x:Operand)
 |copy (n:Nat) (x y:Operand)
 |cap (x:Operand)
 |srange (x:Operand)
 |snext (x:Operand)
 |sbytes (x:Operand)
 |srunes (x:Operand)
 |bstr (x:Operand)
 |rstr (x:Operand)
 |mkif (t:Nat) (x:Operand)
 |m (o:MOp) (xs:List Operand)
 |bad
 |call (f:Nat) (args:List Operand)
 |callv (f:Operand) (args:List Operand)
 |callb (r f:Nat) (args:List Operand)
def qH:Value->D
 | .bool b=> .v (.bool b)
 | .int k n=> .v (.int k n)
 | .string s=> .v (.string s)
 | .pointer a=> .v (.pointer a)
 | .slice a l c=> .v (.slice a l c)
 | .nilFunc=> .v .nilFunc
 | .map a=> .v (.map a)
 | _=> .any
def ev(σ:Sg):Operand->D
 | .tmp t=>σ t
 | .const x=>qH x
 | .global g=> .v (.pointer (some ⟨g,0,none⟩))
 | .func f=> .clo f []
def Ay:Operand->Bool
 | .const (.string s)=>decide (s.size<=1000000)
 | _=>true
def dn(P:Program)(t:TypeId):Option Nat:=(P.info? t).map (·.size)
def iv(P:Program)(t:TypeId):Option Bool:=
 match P.underlying t with
 |some (.struct _)|some (.array _ _)=>some true
 |some _=>some false
 |none=>none
def fp(P:Program)(t:TypeId):Option (List Value):=do
 let i <-P.info? t
 let z <-i.zero
 if z.cells.toList.all (·.oneCell') && z.cells.size==i.size && z.cells.toList.all (λx=>match x with| .string s=>decide (s.size<=1000000)| .bool _| .int _ _| .pointer _| .slice _ _ _| .nilFunc| .map _=>true|_=>false)then some z.cells.toList else none
def KN(P:Program)(t:TypeId)(agg:Bool):Bool:=match(P.info? t).bind (·.zero)with
 |some (.agg _)=>agg
 |some x=>!agg && x.oneCell'
 |none=>false
def CK(P:Program)(kf:TypeId->Option (List KK)):List Field->Nat->Option (List KK)
 | [],_=>some []
 | f::r,off=>do
   let ks <-kf f.type
   if f.offset = off && decide (f.name ≠ "_") && decide (dn P f.type = some ks.length) then
    let l <-CK P kf r (off+ks.length)
    some (ks++l)
   else none
def Kx(P:Program):Nat->TypeId->Option (List KK)
 | 0,_=>none
 | n+1,t=>match P.underlying t with
   |some (.int k)=>some [.int k]
   |some .string=>some [.str]
   |some .bool=>some [.bool]
   | some (.pointer e)=>match dn P e with
     |some (_+1)=>some [.ptr]
     | _=>none
   |some (.struct fs)=>if P.stoodInHeld t then none else CK P (Kx P n) fs.toList 0
   | some (.array len e)=>do
     let ks <-Kx P n e
     if dn P e=some ks.length then some (List.replicate len ks).flatten else none
   | _=>none
def qfM(P:Program)(t:TypeId):Option (Bool×List KK):=do
 let ka <-iv P t
 let ks <-Kx P 50 t
 some (ka,ks)
def ml(P:Program)(t:TypeId):Option XI:=
 match P.underlying t with
 |some (.int _)=>some .int
 |some .string=>some .str
 |some .bool=>some .bool
 | _=>none
def zN(P:Program)(t:TypeId):Option (List XI):=
 match P.underlying t with
 | some (.struct fs)=>
   if !P.stoodInHeld t && !P.eqGuardType P.depth t && decide (fs.toList.map (·.offset) = List.range' 0 fs.toList.length) && fs.toList.all (fun f => decide (f.name ≠ "_")) then fs.toList.mapM (fun f => ml P f.type) else none
 | _=>none
def nL(P:Program)(neg:Bool)(t:TypeId)(x y:Operand):Option COp:=
 match ml P t with
 |some k=>some (.eql neg false [k] x y)
 |none=>(zN P t).map λks=> .eql neg true ks x y
def xt(parts:Array (Nat×Operand))(n:Nat):Option (List Operand):=
 if parts.toList.map (·.1)=List.range n then some (parts.toList.map (·.2))else none
def qgG(im:List Nat)(d:Option Nat):Bool:=d.any im.contains
def qpF(im:List Nat)(d:Option Nat):Bool:=d.any λd=>im.contains (d+100000)
def qix(im:List Nat)(d:Option Nat):Bool:=d.any λd=>im.contains (d+200000)
def qeP(im:List Nat)(d:Option Nat):Option Nat:=d.bind λd=>(im.find? λc=>c/1000=1000+d).map λc=>c % 1000
def ql1(im:List Nat)(x:Operand):Option Nat:=match x with
 | .tmp t=>(im.find? λc=>c/1000=2000+t).map λc=>c % 1000
 | _=>none
def qbc(im:List Nat)(d:Option Nat):Option Nat:=d.bind λd=>(im.find? λc=>c/1000=3000+d).map λc=>c % 1000
def Zt(b:Option Nat)(f:Nat)(args:List Operand):COp:=match b with
 |none=> .call f args
 |some r=> .callb r f args
def qkR(im:List Nat):Bool:=im.contains 300000
def Dq:Nat:=1000000007
def Sw(P:Program)(t:TypeId):Bool:=match P.underlying t with|some (.int _)=>true|_=>false
def cN(P:Program)(im:List Nat)(o:Oper):Option COp:=
 if !o.op.operands.toList.all Ay then none else
 match o.op with
 | .move x| .assign x=>some (.mv x)
 | .pick c x y=>some (.pick c x y)
 | .alloc el=>do some (.alloc el (<-fp P el))
 | .box el x=>if qix im o.dst then some (.tbx el x)else some (.box el (qgG im o.dst) x)
 | .build t parts=>do
   let z <-fp P t
   match P.underlying t with
   | some (.struct fs)=>
     let ps <-parts.toList.mapM λp=>do
      let f <-fs[p.1]?
      let sz <-dn P f.type
      if f.offset+sz<=z.length then some (f.offset,sz,p.2)else none
     if fs.toList.all (λf=>(dn P f.type).isSome)then some (.build z ps)else none
   | some (.array _ el)=>
     let sz <-dn P el
     let ps <-parts.toList.mapM λp=>if p.1*sz+sz<=z.length then some (p.1*sz,sz,p.2)else none
     some (.build z ps)
   | _=>none
 | .buildSlice t len parts=>do
   match P.underlying t with
   | some (.slice el)=>
     let n <-dn P el
     let _ <-fp P el
     let ps <-xt parts len
     if len*n<=2^24 && 0<n then(if len=0 then some (.nslice el n)else if qpF im o.dst then some (.mslice el n ps)else some (.bslice el n ps))else none
   | _=>none
 | .load t x=>do
   let agg <-iv P t
   let sz <-dn P t
   if agg||sz=1 then some (.load agg sz x)else none
 | .store t x y=>do some (.store (ql1 im x) (<-dn P t) x y)
 | .nilCheck x=>some (.nilck x)
 | .binOp op t x y _=>
   match op with
   | .add=>if Sw P t then some (.arith .add x y)else match P.underlying t with|some .string=>some (.scat x y)|_=>none
   | .sub| .mul| .quo| .rem=>if Sw P t then some (.arith op x y)else none
   | .and| .or| .shl| .shr=>if Sw P t then some (.arith op x y)else none
   | .lss| .leq| .gtr| .geq=>if Sw P t then some (.cmp op x y)else match P.underlying t with|some .string=>some (.cmp op x y)|_=>none
   | .eql=>nL P false t x y
   | .neq=>nL P true t x y
   | _=>none
 | .unOp .not _ x=>some (.not x)
 | .unOp .neg _ x=>some (.neg x)
 | .convert s t x=>
   match P.underlying s,P.underlying t with
   |some (.int _),some (.int k)=>some (.conv k x)
   |some (.int _),some .string=>some (.rstr x)
   | some .string,some (.slice el)=>match P.underlying el with
     |some (.int .u8)=>some (.sbytes x)
     |some (.int .i32)=>some (.srunes x)
     | _=>none
   | some (.slice el),some .string=>match P.underlying el with
     |some (.int .u8)=>some (.bstr x)
     | _=>none
   | _,_=>none
 | .makeFunc (.func f) first caps=>if first.isEmpty then some (.clo f caps.toList)else none
 | .makeSlice t l c=>do
   match P.underlying t with
   | some (.slice el)=>
     let n <-dn P el
     let z <-fp P el
     let b:=P.bytesOf el
     let agg <-iv P el
     if 0<n && (agg||n=1)then some (.mkslice el n b agg z l c)else none
   | _=>none
 | .slice t x lo hi none=>
   match P.underlying t with
   |some (.slice el)=>do some (.slice (<-dn P el) x lo hi)
   |some .string=>some (.sslice x lo hi)
   | _=>none
 | .fieldAddr t x f=>do
   match P.underlying t with
   | some (.struct fs)=>
     let fd <-fs[f]?
     let sz <-dn P fd.type
     if 0<sz then some (.faddr fd.offset x)else none
   | _=>none
 | .field t x f=>do
   match P.underlying t with
   | some (.struct fs)=>
     let fd <-fs[f]?
     let agg <-iv P fd.type
     let sz <-dn P fd.type
     if agg||sz=1 then some (.fld agg sz fd.offset x)else none
   | _=>none
 | .indexAddr t x i=>do
   match P.underlying t with
   |some (.slice el)=>some (.iaddr (<-dn P el) x i)
   | some (.array len el)=>match i with
     | .const (.int .i64 k)=>do
       let sz <-dn P el
       if 0<=k/\k<len then some (.faddr (k.toNat*sz) x)else none
     | _=>do some (.m (.aidx len (<-dn P el)) [x,i])
   | _=>none
 | .index t x i=>
   match P.underlying t with
   |some .string=>some (.sidx x i)
   | _=>none
 | .extract x i=>some (.ext x i)
 | .range t x=>match P.underlying t with
   |some .string=>some (.srange x)
   |some (.map _ _)=>some (.m .rng [x])
   | _=>none
 | .next x true=>some (.snext x)
 | .next x false=>some (.m .next [x])
 | .entry x=>some (.m .entry [x])
 | .makeMap t none=>some (.m .mk [])
 | .lookup t x k ok=>match P.underlying t with
   | some (.map kt et)=>do
     let (ka,ks) <-qfM P kt
     let z <-fp P et
     let agg <-iv P et
     if KN P et agg then some (.m (.look ok agg ka ks z) [x,k])else none
   | _=>none
 | .mapUpdate t x k v| .insert t x k v=>match P.underlying t with
   | some (.map kt _)=>do
     let (ka,ks) <-qfM P kt
     some (.m (.upd ka ks) [x,k,v])
   | _=>none
 | .makeInterface t x=>if qkR im then(match P.underlying t with|some (.struct _)=>some (.mkif t x)|_=>none)else some .bad
 | .panic x=>if qkR im && decide (P.funcs.size<=Dq)then some (.call Dq [x])else some .bad
 | .call c=>
   match c.callee with
   | .value (.func f)=>if f=Dq then none else some (Zt (qbc im o.dst) f c.args.toList)
   | .value f=>some (.callv f c.args.toList)
   | .builtin .len=>match c.argTypes.toList,c.args.toList with
     | [t], [x]=>match P.underlying t with|some (.slice _)=>some (.len x)|some .string=>some (.slen x)|some (.map _ _)=>some (.m .len [x])|_=>none
     | _,_=>none
   | .builtin .min=>some (.mm false c.args.toList)
   | .builtin .max=>some (.mm true c.args.toList)
   | .builtin .append=>match c.argTypes.toList,c.args.toList with
     | [t,u], [x,y]=>if t=u then(match P.underlying t with
       | some (.slice el)=>do
         let n <-dn P el
         let _ <-fp P el
         if 0<n then some (.append (qeP im o.dst) el n (P.bytesOf el) x y)else none
       | _=>none)else(match P.underlying t,P.underlying u with
       | some (.slice el),some (.int _)=>do
         let n <-dn P el
         let z <-fp P el
         let agg <-iv P el
         if 0<n && (agg||n=1)then some (.appmk el n (P.bytesOf el) agg z x y)else none
       | some (.slice el),some .string=>do
         let n <-dn P el
         let _ <-fp P el
         if n=1 then some (.append (qeP im o.dst) el n (P.bytesOf el) x y)else none
       | _,_=>none)
     | _,_=>none
   | .builtin .clear=>match c.argTypes.toList,c.args.toList with
     | [t], [x]=>match P.underlying t with
       | some (.slice el)=>do
         let n <-dn P el
         let z <-fp P el
         let agg <-iv P el
         if 0<n && (agg||n=1)then some (.clear n agg z x)else none
       | _=>none
     | _,_=>none
   | .builtin .copy=>match c.argTypes.toList,c.args.toList with
     | [t,u], [x,y]=>if t=u then(match P.underlying t with
       | some (.slice el)=>do
         let n <-dn P el
         if 0<n then some (.copy n x y)else none
       | _=>none)else none
     | _,_=>none
   | .builtin .cap=>match c.argTypes.toList,c.args.toList with
     | [t], [x]=>match P.underlying t with|some (.slice _)=>some (.cap x)|_=>none
     | _,_=>none
   | .builtin .delete=>match c.argTypes.toList,c.args.toList with
     | [t,_], [x,k]=>match P.underlying t with
       | some (.map kt _)=>do
         let (ka,ks) <-qfM P kt
         some (.m (.del ka ks) [x,k])
       | _=>none
     | _,_=>none
   | _=>none
 | _=>none
abbrev PT:=Nat->List D->ab->(D->ab->Prop)->Prop
structure PC where
 pre:List D->Prop
 post:List D->D->Prop
def qZ(A:PT):Prop:=∀(d:Nat) (ds:List D) (H:ab) (K K':D->ab->Prop),(∀r H,K r H->K' r H)->A d ds H K->A d ds H K'
inductive Spc where
 |none
 |pure (c:PC)
 |gen (A:PT) (h:qZ A)
def Spc.pt:Spc->PT
 | .none=>λ_ _ _ _=>False
 | .pure c=>λ_ ds H K=>c.pre ds/\∀r,c.post ds r->K r H
 | .gen A _=>A
def InR:IntKind->Int->Prop
 | .i64,n=> -9223372036854775808<=n/\n<=9223372036854775807
 | .i32,n=> -2147483648<=n/\n<=2147483647
 | .i16,n=> -32768<=n/\n<=32767
 | .i8,n=> -128<=n/\n<=127
 | .u64,n=>0<=n/\n<=18446744073709551615
 | .u32,n=>0<=n/\n<=4294967295
 | .u16,n=>0<=n/\n<=65535
 | .u8,n=>0<=n/\n<=255
def InR.wrap{k:IntKind}{n:Int}(h:InR k n):k.wrap n=n:=by
 cases k<;>simp only[InR]at h<;>simp[IntKind.wrap,IntKind.bits,IntKind.signed] <;>omega
def De(k:IntKind)(a b:Int):Int:=k.wrap (BitVec.ofInt k.bits a &&& BitVec.ofInt k.bits b).toNat
def qoc(k:IntKind)(a b:Int):Int:=k.wrap (BitVec.ofInt k.bits a|||BitVec.ofInt k.bits b).toNat
def Rr(k:IntKind)(a b:Int):Int:=k.wrap (a*2^min b.toNat k.bits)
def Yt(k:IntKind)(a b:Int):Int:=a.fdiv (2^min b.toNat k.bits)
def qcD(op:BinOp)(k k':IntKind):Prop:=match op with
 | .shl| .shr=>True
 | _=>k=k'
def gQ(op:BinOp)(k:IntKind)(a b:Int)(K:D->Prop):Prop:=
 match op with
 | .add=>InR k (a+b)/\K (.v (.int k (a+b)))
 | .sub=>InR k (a -b)/\K (.v (.int k (a -b)))
 | .mul=>InR k (a*b)/\K (.v (.int k (a*b)))
 | .quo=>b≠0/\InR k (a.tdiv b)/\K (.v (.int k (a.tdiv b)))
 | .rem=>b≠0/\K (.v (.int k (a.tmod b)))
 | .and=>K (.v (.int k (De k a b)))
 | .or=>K (.v (.int k (qoc k a b)))
 | .shl=>0<=b/\K (.v (.int k (Rr k a b)))
 | .shr=>0<=b/\K (.v (.int k (Yt k a b)))
 | _=>False
def Tc(op:BinOp)(a b:Int):Option Bool:=
 match op with
 | .lss=>some (decide (a<b))
 | .leq=>some (decide (a<=b))
 | .gtr=>some (decide (b<a))
 | .geq=>some (decide (b<=a))
 | _=>none
def Xb(op:BinOp)(a b:ByteArray):Option Bool:=
 match op with
 | .lss=>some (Op.bytesLess a.toList b.toList)
 | .leq=>some (Op.bytesLess a.toList b.toList||a.toList==b.toList)
 | .gtr=>some (!(Op.bytesLess a.toList b.toList||a.toList==b.toList))
 | .geq=>some (!Op.bytesLess a.toList b.toList)
 | _=>none
def qsi:List D->Option (List Value)
 | []=>some []
 | .v x::l=>(qsi l).map (x:: ·)
 | _=>none
def mC:D->Option (IntKind×Int)
 | .v (.int k n)=>some (k,n)
 | _=>none
def qq4:D->Option ByteArray
 | .v (.string s)=>some s
 | _=>none
def qq5:D->Option Bool
 | .v (.bool b)=>some b
 | _=>none
def Zm(k:XI)(d e:D):Option Bool:=
 match k with
 | .int=>(mC d).bind λp=>(mC e).bind λq=>if p.1=q.1 then some (decide (p.2=q.2))else none
 | .str=>(qq4 d).bind λp=>(qq4 e).bind λq=>some (decide (p=q))
 | .bool=>(qq5 d).bind λp=>(qq5 e).bind λq=>some (decide (p=q))
def Zj:List XI->List D->List D->Option Bool
 | [],as,bs=>if as.isEmpty && bs.isEmpty then some true else none
 |k::ks,as,bs=>as.head?.bind λa=>bs.head?.bind λb=>(Zm k a b).bind λp=>(Zj ks as.tail bs.tail).bind λq=>some (p && q)
def rV:D->Option (List D)
 | .agg cs=>some cs
 | _=>none
def qgv(agg:Bool)(ks:List XI)(a b:D):Option Bool:=
 if agg then(rV a).bind λas=>(rV b).bind λbs=>Zj ks as bs
 else match ks with
  | [k]=>Zm k a b
  | _=>none
def pY(lo hi:Option (Option (IntKind×Int)))(len:Nat)(K:Nat->Nat->Prop):Prop:=
 match lo,hi with
 |none,none=>K 0 len
 |some (some (_,l)),none=>0<=l/\l<=len/\K l.toNat len
 |none,some (some (_,h))=>0<=h/\h<=len/\K 0 h.toNat
 |some (some (_,l)),some (some (_,h))=>0<=l/\l<=h/\h<=len/\K l.toNat h.toNat
 | _,_=>False
def Tz(agg:Bool)(z:List Value):D:=if agg then .agg (z.map qH)else qH (z.headD (.bool false))
def setAt(l:List D)(off:Nat)(new:List D):List D:=l.take off++new++l.drop (off+new.length)
def Kw(agg:Bool)(sz:Nat)(cs:List D)(off:Nat):D:=if agg then .agg ((cs.drop off).take sz)else(cs[off]?).getD .any
def kA(σ:Sg):List (Nat×Nat×Operand)->List D->(List D->Prop)->Prop
 | [],cs,K=>K cs
 |(off,sz,x)::r,cs,K=>(ev σ x).kn=true/\(ev σ x).cells.length=sz/\kA σ r (setAt cs off (ev σ x).cells) K
def kg(n:Nat):List D->Prop
 | []=>True
 |d::r=>d.kn=true/\d.cells.length=n/\kg n r
def Zv:D->Option UInt8
 | .v (.int .u8 n)=>some (UInt8.ofNat n.toNat)
 | _=>none
def qk8(es:List D):Bool:=es.all λd=>(Zv d).isSome
def qnr(es:List D):ByteArray:=⟨(es.map λd=>(Zv d).getD 0).toArray⟩
def qjK:KK->D->Bool
 | .int k, .v (.int k' _)=>decide (k=k')
 | .str, .v (.string _)=>true
 | .bool, .v (.bool _)=>true
 | .ptr, .cptr cs _=>decide (cs.length≠1)
 | .ptr, .v (.pointer none)=>true
 | _,_=>false
def qjJ:List KK->List D->Bool
 | [], []=>true
 |k::ks,d::ds=>qjK k d && qjJ ks ds
 | _,_=>false
def Wv(ka:Bool)(ks:List KK)(d:D):Bool:=
 if ka then(match rV d with|some cs=>qjJ ks cs|none=>false)else(match ks with|[k]=>qjK k d|_=>false)
def Zg(ka:Bool)(ks:List KK):D->Bool
 | .tup [k,_]=>Wv ka ks k
 | _=>false
def qoi:D->Bool
 | .v _=>true
 | _=>false
def DA(d:D):Bool:=d.cells.all qoi
def qbq(a b:D):Prop:=∃(tp I:Nat->Prop) (w:World) (x:Value),R tp I w x a/\R tp I w x b
def Gs(d:D)(H:ab)(K:List D->Prop):Prop:=
 match d with
 | .mp es=>K es
 | .v (.map none)=>K []
 | .own id x=>match H id with
   |some (.mrow x' es)=>x'=x/\K es
   | _=>False
 | _=>False
def qsN(ok:Bool)(v:D)(b:Bool):D:=if ok then .tup [v, .v (.bool b)]else v
def qmD(ok agg ka:Bool)(ks:List KK)(z:List Value)(k:D)(es:List D)(K:D->Prop):Prop:=
 es.all (Zg ka ks)=true/\Wv ka ks k=true/\(∀k' v,D.tup [k',v] ∈es->qbq k k'->K (qsN ok v true))/\((DA k=true->∀v,D.tup [k,v] ∉es)->K (qsN ok (Tz agg z) false))
def ZR(ka:Bool)(ks:List KK)(k v:D)(es:List D)(K:List D->Prop):Prop:=
 es.all (Zg ka ks)=true/\Wv ka ks k=true/\(∀l1 k' v' l2,es=l1++D.tup [k',v']::l2->qbq k k'->K (l1++D.tup [k,v]::l2))/\((DA k=true->∀v',D.tup [k,v'] ∉es)->K (es++ [.tup [k,v]]))
def WJ(ka:Bool)(ks:List KK)(k:D)(es:List D)(st:List Nat)(K:List D->List Nat->Prop):Prop:=
 es.all (Zg ka ks)=true/\Wv ka ks k=true/\(∀(i:Nat) (k' v':D),es[i]? =some (D.tup [k',v'])->qbq k k'->K (es.eraseIdx i) (st.eraseIdx i))/\((DA k=true->∀v',D.tup [k,v'] ∉es)->K es st)
def qlk(st:List Nat)(clock n:Nat):Prop:=st.length=n/\st.Nodup/\∀s∈st,s<clock
def Du(x:Value)(clock:Nat)(seen:List Nat)(r:Option Res)(K:D->Prop):Prop:=match r with
 | some (.raw (.mrs x' es st clock'))=>x'=x/\clock'=clock/\match seen.getLast? with
   |some s=>s∈st/\∀(i:Nat) (e:D),st[i]? =some s->es[i]? =some e->K e
   |none=>False
 | _=>False
def Jz(id b m:Nat)(x:Value)(clock:Nat)(seen:List Nat)(r:Option Res)(H:ab)(K:D->ab->Prop):Prop:=match r with
 | some (.raw (.mrs x' es st clock'))=>x'=x/\clock'=clock/\((∀s∈st,s∈seen)->K (.tup [.v (.bool false)]) (ai H m (some (.mrow x' es))))/\
    ∀s,s∈st->s∉seen->K (.tup [.v (.bool true), .any, .any]) (ai H id (some (.raw (.mit b m x clock (seen++ [s])))))
 | _=>False
def Jp(t id:Nat)(x:Value)(r:Option Res)(H:ab)(K:D->ab->Prop):Prop:=match r with
 |some (.mrow x' es)=>x'=x/\∀b st clock,qlk st clock es.length->K (.bptr t b 0) (ai (ai H id (some (.raw (.mrs x' es st clock)))) t (some (.raw (.mit b id x' clock []))))
 | _=>False
def qgn(off:Nat)(d:D)(K:D->Prop):Prop:=match d with
 | .cptr cs o=>K (.cptr cs (o+off))
 | .bptr id b o=>K (.bptr id b (o+off))
 | .eptr id x n i o=>K (.eptr id x n i (o+off))
 | _=>False
def yd(o:MOp)(ds:List D)(H:ab)(K:D->Prop):Prop:=
 match o,ds with
 | .look ok agg ka ks z, [x,k]=>Gs x H λes=>qmD ok agg ka ks z k es K
 | .len, [x]=>Gs x H λes=>K (.v (.int .i64 es.length))
 | .entry, [.bptr id b off]=>off=0/\match H id with
   |some (.miter b' [e] _)=>b'=b/\K e
   |some (.raw (.mit b' m x clock seen))=>b'=b/\Du x clock seen (H m) K
   | _=>False
 | .aidx len sz, [x, .v (.int _ k)]=>0<=k/\k<len/\qgn (k.toNat*sz) x K
 | _,_=>False
def gM(o:MOp)(ds:List D)(dst:Option Nat)(H:ab)(K:D->ab->Prop):Prop:=
 match o,ds with
 | .mk, []=>match dst with
   |some t=>∀x,K (.own t x) (ai H t (some (.mrow x [])))
   |none=>False
 | .upd ka ks, [.own id x,k,v]=>match H id with
   |some (.mrow x' es)=>x'=x/\ZR ka ks k v es λes'=>K .undef (ai H id (some (.mrow x' es')))
   | _=>False
 | .rng, [x]=>match dst with
   | some t=>(match x with
     | .mp es=>∀b,K (.bptr t b 0) (ai H t (some (.miter b [] es)))
     | .v (.map none)=>∀b,K (.bptr t b 0) (ai H t (some (.miter b [] [])))
     | .own id x=>Jp t id x (H id) H K
     | _=>False)
   |none=>False
 | .next, [.bptr id b off]=>off=0/\match H id with
   |some (.miter b' cur left)=>b'=b/\(left=[]->K (.tup [.v (.bool false)]) H)/\∀l1 e l2,left=l1++e::l2->K (.tup [.v (.bool true), .any, .any]) (ai H id (some (.miter b' [e] (l1++l2))))
   |some (.raw (.mit b' m x clock seen))=>b'=b/\Jz id b' m x clock seen (H m) H K
   | _=>False
 | .del ka ks, [.own id x,k]=>match H id with
   |some (.raw (.mrs x' es st clock))=>x'=x/\WJ ka ks k es st λes' st'=>K (.tup []) (ai H id (some (.raw (.mrs x' es' st' clock))))
   | _=>False
 |o,ds=>yd o ds H λd=>K d H
def aj(c:COp)(σ:Sg)(H:ab)(K:D->Prop):Prop:=
 match c with
 | .mv x=>K (ev σ x)
 | .pick c x y=>match ev σ c with
   | .v (.bool t)=>(t=true->K (ev σ x))/\(t=false->K (ev σ y))
   | _=>False
 | .box _ true x=>(ev σ x).kn=true/\K (.cptr (ev σ x).cells 0)
 | .build z parts=>kA σ parts (z.map qH) λcs=>K (.agg cs)
 | .bslice _ n ps=>kg n (ps.map (ev σ))/\K (.list n (ps.map (ev σ)))
 | .load agg sz x=>match ev σ x with
   | .cptr cs off=>off+sz<=cs.length/\K (Kw agg sz cs off)
   | .bptr id b off=>match H id with
     |some (.box b' cells)=>b'=b/\off+sz<=cells.length/\K (Kw agg sz cells off)
     | _=>False
   | .eptr id x n i off=>match H id with
     |some (.row x' _ n' es)=>x'=x/\n'=n/\off+sz<=n/\i<es.length/\∀d,es[i]? =some d->K (Kw agg sz d.cells off)
     | _=>False
   | _=>False
 | .nilck x=>match ev σ x with
   | .cptr cs off=>K (.cptr cs off)
   | .bptr id b off=>K (.bptr id b off)
   | .eptr id x n i off=>K (.eptr id x n i off)
   | .tape L=>K (.tape L)
   | .clo f caps=>K (.clo f caps)
   | _=>False
 | .arith op x y=>match ev σ x,ev σ y with
   | .v (.int k a), .v (.int k' b)=>qcD op k k'/\gQ op k a b K
   | _,_=>False
 | .cmp op x y=>match ev σ x,ev σ y with
   | .v (.int k a), .v (.int k' b)=>k=k'/\(match Tc op a b with|some t=>K (.v (.bool t))|none=>False)
   | .v (.string a), .v (.string b)=>match Xb op a b with|some t=>K (.v (.bool t))|none=>False
   | _,_=>False
 | .eql neg agg ks x y=>match qgv agg ks (ev σ x) (ev σ y)with
   |some p=>K (.v (.bool (if neg then !p else p)))
   |none=>False
 | .scat x y=>match ev σ x,ev σ y with
   | .v (.string a), .v (.string b)=>a.size+b.size<=1000000000/\K (.v (.string (a++b)))
   | _,_=>False
 | .not x=>match ev σ x with
   | .v (.bool b)=>K (.v (.bool (!b)))
   | _=>False
 | .neg x=>match ev σ x with
   | .v (.int k n)=>InR k (0 -n)/\K (.v (.int k (0 -n)))
   | _=>False
 | .conv k x=>match ev σ x with
   | .v (.int _ n)=>K (.v (.int k (k.wrap n)))
   | _=>False
 | .clo f caps=>K (.clo f (caps.map (ev σ)))
 | .slice n x lo hi=>match ev σ x with
   | .list n' es=>n'=n/\(match lo.map (λo=>mC (ev σ o)),hi.map (λo=>mC (ev σ o))with
     |none,none=>K (.list n es)
     |some (some (_,l)),none=>0<=l/\l<=es.length/\K (.list n (es.drop l.toNat))
     |none,some (some (_,h))=>0<=h/\h<=es.length/\K (.list n (es.take h.toNat))
     |some (some (_,l)),some (some (_,h))=>0<=l/\l<=h/\h<=es.length/\K (.list n ((es.take h.toNat).drop l.toNat))
     | _,_=>False)
   | .own id x=>match H id with
     |some (.row x' _ n' es)=>x'=x/\n'=n/\pY (lo.map λo=>mC (ev σ o)) (hi.map λo=>mC (ev σ o)) es.length λl h=>K (.sub id x n l h)
     | _=>False
   | .sub id x n' a b=>n'=n/\pY (lo.map λo=>mC (ev σ o)) (hi.map λo=>mC (ev σ o)) (b -a) λl h=>K (.sub id x n (a+l) (a+h))
   | .v (.slice none 0 0)=>pY (lo.map λo=>mC (ev σ o)) (hi.map λo=>mC (ev σ o)) 0 λ_ _=>K (.v (.slice none 0 0))
   | _=>False
 | .sslice x lo hi=>match ev σ x with
   | .v (.string s)=>(match lo.map (λo=>mC (ev σ o)),hi.map (λo=>mC (ev σ o))with
     |none,none=>K (.v (.string (s.extract 0 s.size)))
     |some (some (_,l)),none=>0<=l/\l<=s.size/\K (.v (.string (s.extract l.toNat s.size)))
     |none,some (some (_,h))=>0<=h/\h<=s.size/\K (.v (.string (s.extract 0 h.toNat)))
     |some (some (_,l)),some (some (_,h))=>0<=l/\l<=h/\h<=s.size/\K (.v (.string (s.extract l.toNat h.toNat)))
     | _,_=>False)
   | _=>False
 | .faddr off x=>match ev σ x with
   | .cptr cs o=>K (.cptr cs (o+off))
   | .bptr id b o=>K (.bptr id b (o+off))
   | .eptr id x n i o=>K (.eptr id x n i (o+off))
   | _=>False
 | .fld agg sz off x=>match ev σ x with
   | .agg cs=>off+sz<=cs.length/\K (Kw agg sz cs off)
   | _=>False
 | .iaddr n x i=>match ev σ i with
   | .v (.int _ k)=>match ev σ x with
     | .list n' es=>n'=n/\0<=k/\k<es.length/\∀d,es[k.toNat]? =some d->K (.cptr d.cells 0)
     | .own id x=>match H id with
       |some (.row x' _ n' es)=>x'=x/\n'=n/\0<=k/\k<es.length/\K (.eptr id x n k.toNat 0)
       | _=>False
     | .sub id x n' lo hi=>n'=n/\0<=k/\k<(hi -lo:Nat)/\K (.eptr id x n (lo+k.toNat) 0)
     | _=>False
   | _=>False
 | .sidx x i=>match ev σ i with
   | .v (.int _ k)=>match ev σ x with
     | .v (.string s)=>0<=k/\k<s.size/\∀c,s.data[k.toNat]? =some c->K (.v (.int .u8 c.toNat))
     | _=>False
   | _=>False
 | .ext x i=>match ev σ x with
   | .tup ds=>match ds[i]? with
     |some d=>K d
     |none=>False
   | _=>False
 | .len x=>match ev σ x with
   | .list _ es=>(es.length:Int)<=9223372036854775807->K (.v (.int .i64 es.length))
   | .own id x=>match H id with
     |some (.row x' _ _ es)=>x'=x/\((es.length:Int)<=9223372036854775807->K (.v (.int .i64 es.length)))
     | _=>False
   | .v (.slice _ n _)=>K (.v (.int .i64 n))
   | .sub _ _ _ lo hi=>((hi -lo:Nat):Int)<=9223372036854775807->K (.v (.int .i64 (hi -lo:Nat)))
   | _=>False
 | .cap x=>match ev σ x with
   | .v (.slice none 0 0)=>K (.v (.int .i64 0))
   | _=>False
 | .sbytes x=>match ev σ x with
   | .v (.string s)=>K (.list 1 (s.data.toList.map λc=> .v (.int .u8 c.toNat)))
   | _=>False
 | .srunes x=>match ev σ x with
   | .v (.string s)=>s.size<=1000000000/\K (.list 1 ((Conv.runesFrom s s.size 0 #[]).toList.map D.v))
   | _=>False
 | .bstr x=>match ev σ x with
   | .own id x=>match H id with
     |some (.row x' _ n es)=>x'=x/\n=1/\qk8 es=true/\K (.v (.string (qnr es)))
     | _=>False
   | .v (.slice none 0 0)=>K (.v (.string ⟨#[]⟩))
   | _=>False
 | .rstr x=>match ev σ x with
   | .v (.int _ n)=>K (.v (.string (Utf8.encode n)))
   | _=>False
 | .mkif t x=>match ev σ x with
   | .agg cs=>match qsi cs with
     |some xs=>K (.v (.iface t (.agg xs.toArray)))
     |none=>False
   | _=>False
 | .slen x=>match ev σ x with
   | .v (.string s)=>(s.size:Int)<=9223372036854775807->K (.v (.int .i64 s.size))
   | _=>False
 | .m o xs=>yd o (xs.map (ev σ)) H K
 | .mm mx [x,y]=>match ev σ x,ev σ y with
   | .v (.int k a), .v (.int k' b)=>k=k'/\K (.v (.int k (if mx then max a b else min a b)))
   | _,_=>False
 | .mm mx [x,y,z]=>match ev σ x,ev σ y,ev σ z with
   | .v (.int k a), .v (.int k' b), .v (.int k'' c)=>k=k'/\k=k''/\K (.v (.int k (if mx then max (max a b) c else min (min a b) c)))
   | _,_,_=>False
 | _=>False
def kD(n:Nat)(d:D)(H:ab)(K:List D->Prop):Prop:=
 match d with
 | .list n' es=>n'=n/\K es
 | .own id x=>match H id with
   |some (.row x' _ n' es)=>x'=x/\n'=n/\K es
   | _=>False
 | .v (.slice none 0 0)=>K []
 | .sub id x n' lo hi=>match H id with
   |some (.row x' _ n'' es)=>x'=x/\n'=n/\n''=n/\K ((es.take hi).drop lo)
   | _=>False
 | _=>False
def FI(s:ByteArray):List D:=s.data.toList.map λb=> .v (.int .u8 b.toNat)
def vM(n:Nat)(d:D)(H:ab)(K:List D->Prop):Prop:=
 match d with
 | .v (.string s)=>n=1/\K (FI s)
 |d=>kD n d H K
def bk(c:COp)(dst:Option Nat)(σ:Sg)(H:ab)(K:D->ab->Prop):Prop:=
 match c with
 | .alloc _ z=>match dst with
   |some t=>∀b,K (.bptr t b 0) (ai H t (some (.box b (z.map qH))))
   |none=>False
 | .box _ false x=>match dst with
   |some t=>(ev σ x).kn=true/\∀b,K (.bptr t b 0) (ai H t (some (.box b (ev σ x).cells)))
   |none=>False
 | .tbx el x=>match dst with
   |some t=>(ev σ x).kn=true/\∀b,K (.bptr t b 0) (ai H t (some (.tbox el b (ev σ x).cells)))
   |none=>False
 | .nslice el n=>match dst with
   |some t=>∀x,K (.own t x) (ai H t (some (.row x el n [])))
   |none=>False
 | .mslice el n ps=>match dst with
   |some t=>kg n (ps.map (ev σ))/\∀x,K (.own t x) (ai H t (some (.row x el n (ps.map (ev σ)))))
   |none=>False
 | .mkslice el n bytes agg z l c=>match dst with
   | some t=>match mC (ev σ l),mC (ev σ c)with
     |some (_,l),some (_,c)=>0<=l/\l<=c/\bytes*c<=140737488355328/\c<=140737488355328/\∀x,K (.own t x) (ai H t (some (.row x el n (List.replicate l.toNat (if agg then .agg (z.map qH)else qH (z.headD (.bool false)))))))
     | _,_=>False
   |none=>False
 | .store _ sz x y=>(ev σ y).kn=true/\(ev σ y).cells.length=sz/\match ev σ x with
   | .bptr id b off=>match H id with
     |some (.box b' cells)=>b'=b/\off+sz<=cells.length/\K .undef (ai H id (some (.box b' (setAt cells off (ev σ y).cells))))
     | _=>False
   | .eptr id x n i off=>match H id with
     | some (.row x' el n' es)=>x'=x/\n'=n/\0<n/\off+sz<=n/\i<es.length/\∀d,es[i]? =some d->
        K .undef (ai H id (some (.row x' el n' (es.set i (if off=0/\sz=n then ev σ y else .agg (setAt d.cells off (ev σ y).cells))))))
     | _=>False
   | _=>False
 | .srange x=>match dst,ev σ x with
   |some t, .v (.string s)=>∀b,K (.bptr t b 0) (ai H t (some (.iter b s 0)))
   | _,_=>False
 | .snext x=>match ev σ x with
   | .bptr id b off=>off=0/\match H id with
     |some (.iter b' s pos)=>b'=b/\(pos<s.size->K (.tup [.v (.bool true), .v (.int .i64 pos), .v (.int .i32 (Utf8.decode s pos).1)]) (ai H id (some (.iter b' s (pos+ (Utf8.decode s pos).2)))))/\(¬pos<s.size->K (.tup [.v (.bool false)]) H)
     | _=>False
   | _=>False
 | .append _ el n bytes x y=>vM n (ev σ y) H λes2=>match ev σ x with
   | .own id x=>match H id with
     |some (.row x' el' n' es)=>x'=x/\el'=el/\n'=n/\(es.length+es2.length) *bytes<=140737488355328/\es.length+es2.length<=140737488355328/\∀v,K (.own id v) (ai H id (some (.row v el n (es++es2))))
     | _=>False
   | .v (.slice none 0 0)=>match dst with
     |some t=>es2.length*bytes<=140737488355328/\es2.length<=140737488355328/\∀v,K (.own t v) (ai H t (some (.row v el n es2)))
     |none=>False
   | .sub id x n' lo hi=>match H id with
     |some (.row x' el' n'' es)=>x'=x/\el'=el/\n'=n/\n''=n/\lo=0/\(hi+es2.length) *bytes<=140737488355328/\hi+es2.length<=140737488355328/\∀v,K (.own id v) (ai H id (some (.row v el n (es.take hi++es2))))
     | _=>False
   | _=>False
 | .appmk el n bytes agg z x c=>match ev σ x with
   | .v (.slice none 0 0)=>match dst,mC (ev σ c)with
     |some t,some (_,c)=>0<=c/\c*bytes<=140737488355328/\c<=140737488355328/\∀v,K (.own t v) (ai H t (some (.row v el n (List.replicate c.toNat (Tz agg z)))))
     | _,_=>False
   | _=>False
 | .clear n agg z x=>match ev σ x with
   | .own id x=>match H id with
     |some (.row x' el n' es)=>x'=x/\n'=n/\K (.tup []) (ai H id (some (.row x' el n' (List.replicate es.length (Tz agg z)))))
     | _=>False
   | .sub id x n' lo hi=>match H id with
     |some (.row x' el n'' es)=>x'=x/\n'=n/\n''=n/\K (.tup []) (ai H id (some (.row x' el n'' (es.take lo++List.replicate (hi -lo) (Tz agg z) ++es.drop hi))))
     | _=>False
   | .v (.slice none 0 0)=>K (.tup []) H
   | _=>False
 | .copy n x y=>kD n (ev σ y) H λsrc=>match ev σ x with
   | .own id x=>match H id with
     |some (.row x' el n' es)=>x'=x/\n'=n/\K (.v (.int .i64 (min src.length es.length:Nat))) (ai H id (some (.row x' el n' (src.take es.length++es.drop src.length))))
     | _=>False
   | .sub id x n' lo hi=>match H id with
     |some (.row x' el n'' es)=>x'=x/\n'=n/\n''=n/\K (.v (.int .i64 (min src.length (hi -lo):Nat))) (ai H id (some (.row x' el n'' (es.take lo++src.take (hi -lo) ++es.drop (lo+min src.length (hi -lo))))))
     | _=>False
   | _=>False
 | .m o xs=>gM o (xs.map (ev σ)) dst H K
 |c=>aj c σ H λd=>K d H
end Go.Gv
namespace Go.Gv
def COp.isCall:COp->Bool
 | .call _ _| .callv _ _| .callb _ _ _=>true
 | _=>false
def COp.isRead:COp->Bool
 | .call _ _| .callv _ _| .callb _ _ _| .alloc _ _| .box _ false _| .tbx _ _| .nslice _ _| .mslice .. | .mkslice .. | .store .. | .append .. | .appmk .. | .clear .. | .copy .. | .srange .. | .snext .. =>false
 | .m o _=>o.isRead
 | _=>true
@[simp] theorem Xh(b:Option Nat)(f:Nat)(args:List Operand):(Zt b f args).isCall=true:=by cases b<;>rfl
@[simp] theorem Xg(b:Option Nat)(f:Nat)(args:List Operand):(Zt b f args).isRead=false:=by cases b<;>rfl
end Go.Gv
namespace Go.Gv
def Good(P:Program)(o:Oper)(a:Act)(tp I:Nat->Prop)(w:World)(K:D->Prop):Prop:=
 ∃x d,(execOp a.eval o).run P w= .ok (.value x) w/\R tp I w x d/\K d
section
variable {P:Program}{o:Oper}{a:Act}{tp I:Nat->Prop}{w:World}{σ:Sg}{K:D->Prop}
def R.inv_v{x y:Value}(h:R tp I w x (.v y)):x=y:=by cases h;rfl
def R.inv_agg{x:Value}{cs:List D}(h:R tp I w x (.agg cs)):∃xs:List Value,x= .agg xs.toArray/\xs.length=cs.length/\bN (R tp I w) xs cs:=by
 cases h with
 |agg xs cs hl h1 h=>exact⟨xs,rfl,hl,λk y c hy hc=>⟨h1 y (qzY hy),h k y c hy hc⟩⟩
def R.int(k:IntKind)(n:Int):R tp I w (.int k n) (.v (.int k n)):= .v _ rfl (λs h=>by cases h)
def R.bool(b:Bool):R tp I w (.bool b) (.v (.bool b)):= .v _ rfl (λs h=>by cases h)
def R.str(s:ByteArray)(h:s.size<=maxLen):R tp I w (.string s) (.v (.string s)):= .v _ rfl (λs' h'=>by cases h';exact h)
def R.inv_str{x:Value}{s:ByteArray}(h:R tp I w x (.v (.string s))):x= .string s/\s.size<=maxLen:=by
 cases h with
 |v x h hs=>exact⟨rfl,hs s rfl⟩
def qk7(x:Value)(h:∀s,x= .string s->s.size<=maxLen):R tp I w x (qH x):=by
 cases x<;>first|exact .any _|exact .v _ rfl h
def Zi(hr:∀t,R tp I w (a.tmps.getD t undef) (σ t))(x:Operand)(hx:Ay x=true):R tp I w (a.eval x) (ev σ x):=by
 cases x with
 |tmp t=>exact hr t
 | const x=>
   refine qk7 x (λs hs=>?_);subst hs;have:s.size<=1000000:=by simpa [Ay]using hx
   simp only[maxLen];omega
 |global g=>exact .v _ rfl (λs h=>by cases h)
 |func f=>exact .clo f [] [] rfl (λk x c h=>by simp at h)
def qaO{x:Operand}(ho:o.op= .move x\/o.op= .assign x)(hx:R tp I w (a.eval x) (ev σ x))(hv:K (ev σ x)):Good P o a tp I w K:=by
 refine⟨a.eval x,ev σ x,?_,hx,hv⟩;rcases ho with ho|ho<;>simp[execOp,ho]
def qcI{c x y:Operand}(ho:o.op= .pick c x y)(hc:R tp I w (a.eval c) (ev σ c))(hx:R tp I w (a.eval x) (ev σ x))(hy:R tp I w (a.eval y) (ev σ y)){H:ab}
 (hv:aj (.pick c x y) σ H K):Good P o a tp I w K:=by
 simp only[aj]at hv;split at hv
 ·rename_i t ht;rw[ht]at hc;have:=hc.inv_v;cases t
  ·exact⟨a.eval y,ev σ y,by simp[execOp,ho,this,asBool],hy,hv.2 rfl⟩
  ·exact⟨a.eval x,ev σ x,by simp[execOp,ho,this,asBool],hx,hv.1 rfl⟩
 ·exact hv.elim
def Y6{x:Operand}(ho:o.op= .nilCheck x)(hx:R tp I w (a.eval x) (ev σ x)){H:ab}(hv:aj (.nilck x) σ H K):Good P o a tp I w K:=by
 simp only[aj]at hv;generalize hq:a.eval x=q at hx;split at hv<;>first|exact hv.elim|skip
 all_goals
  rename_i e;rw[e]at hx;refine⟨q,_,?_,hx,hv⟩;cases hx<;>simp[execOp,ho,hq]
theorem iP{op:BinOp}{t u:TypeId}{x y:Operand}(ho:o.op= .binOp op t x y u)(hop:op= .add\/op= .sub\/op= .mul\/op= .quo\/op= .rem\/op= .and\/op= .or\/op= .shl\/op= .shr)
 (hx:R tp I w (a.eval x) (ev σ x)) (hy:R tp I w (a.eval y) (ev σ y)) {H:ab} (hv:aj (.arith op x y) σ H K):Good P o a tp I w K:=by
 simp only[aj]at hv;split at hv
 ·rename_i k p k' q e1 e2;rw[e1]at hx;rw[e2]at hy;have h1:=hx.inv_v;have h2:=hy.inv_v;obtain⟨hk,hv⟩:=hv;rcases hop with rfl|rfl|rfl|rfl|rfl|rfl|rfl|rfl|rfl<;>simp only[gQ]at hv<;>first|(have hk2:k=k':=hk;subst hk2)|skip
  ·exact⟨_,_,by simp[execOp,ho,h1,h2,eqGuard,binOp,Op.intArith,hv.1.wrap], .int _ _,hv.2⟩
  ·exact⟨_,_,by simp[execOp,ho,h1,h2,eqGuard,binOp,Op.intArith,hv.1.wrap], .int _ _,hv.2⟩
  ·exact⟨_,_,by simp[execOp,ho,h1,h2,eqGuard,binOp,Op.intArith,hv.1.wrap], .int _ _,hv.2⟩
  ·exact⟨_,_,by simp[execOp,ho,h1,h2,eqGuard,binOp,Op.intDiv,hv.1,hv.2.1.wrap], .int _ _,hv.2.2⟩
  ·exact⟨_,_,by simp[execOp,ho,h1,h2,eqGuard,binOp,Op.intDiv,hv.1], .int _ _,hv.2⟩
  ·exact⟨_,_,by simp[execOp,ho,h1,h2,eqGuard,binOp,Op.intBits,De], .int _ _,hv⟩
  ·exact⟨_,_,by simp[execOp,ho,h1,h2,eqGuard,binOp,Op.intBits,qoc], .int _ _,hv⟩
  ·exact⟨_,_,by simp[execOp,ho,h1,h2,eqGuard,binOp,Op.shift,Rr,show ¬q< 0 by omega], .int _ _,hv.2⟩
  ·exact⟨_,_,by simp[execOp,ho,h1,h2,eqGuard,binOp,Op.shift,Yt,show ¬q< 0 by omega], .int _ _,hv.2⟩
 ·exact hv.elim
theorem Wm{op:BinOp}{t u:TypeId}{x y:Operand}(ho:o.op= .binOp op t x y u)
 (hx:R tp I w (a.eval x) (ev σ x)) (hy:R tp I w (a.eval y) (ev σ y)) {H:ab} (hv:aj (.cmp op x y) σ H K):Good P o a tp I w K:=by
 simp only[aj]at hv;split at hv
 ·rename_i k p k' q e1 e2;rw[e1]at hx;rw[e2]at hy;have h1:=hx.inv_v;have h2:=hy.inv_v;obtain⟨rfl,hv⟩:=hv;cases op<;>simp only[Tc]at hv<;>first
   |exact hv.elim
   |exact⟨_,_,by simp[execOp,ho,h1,h2,eqGuard,binOp,Op.intCmp], .bool _,hv⟩
 ·rename_i p q e1 e2;rw[e1]at hx;rw[e2]at hy;have h1:=hx.inv_v;have h2:=hy.inv_v;cases op<;>simp only[Xb]at hv<;>first
   |exact hv.elim
   |exact⟨_,_,by simp[execOp,ho,h1,h2,eqGuard,binOp,Op.stringOp], .bool _,hv⟩
 ·exact hv.elim
def qcG{t u:TypeId}{x y:Operand}(ho:o.op= .binOp .add t x y u)
 (hx:R tp I w (a.eval x) (ev σ x)) (hy:R tp I w (a.eval y) (ev σ y)) {H:ab} (hv:aj (.scat x y) σ H K):Good P o a tp I w K:=by
 simp only[aj]at hv;split at hv
 ·rename_i p q e1 e2;rw[e1]at hx;rw[e2]at hy;have h1:=hx.inv_v;have h2:=hy.inv_v;obtain⟨hb,hv⟩:=hv;have hn:¬((p.size:Int) +q.size > 9223372036854775807):=by omega
  refine⟨.string (p++q),_,?_, .str _ (by simp[maxLen];omega),hv⟩;have:¬(9223372036854775807<(p.size:Int) +q.size):=by omega
  simp[execOp,ho,h1,h2,eqGuard,binOp,Op.stringOp,this]
 ·exact hv.elim
def qfX{t:TypeId}{x:Operand}(ho:o.op= .unOp .not t x)(hx:R tp I w (a.eval x) (ev σ x)){H:ab}(hv:aj (.not x) σ H K):Good P o a tp I w K:=by
 simp only[aj]at hv;split at hv
 ·rename_i b e1;rw[e1]at hx;have h1:=hx.inv_v;exact⟨_,_,by simp[execOp,ho,h1,Op.unary], .bool _,hv⟩
 ·exact hv.elim
def qfY{t:TypeId}{x:Operand}(ho:o.op= .unOp .neg t x)(hx:R tp I w (a.eval x) (ev σ x)){H:ab}(hv:aj (.neg x) σ H K):Good P o a tp I w K:=by
 simp only[aj]at hv;split at hv
 ·rename_i k n e1;rw[e1]at hx;have h1:=hx.inv_v;have h2:=hv.1.wrap;exact⟨.int k (0 -n),_,by simp only[execOp,ho,h1,Op.unary,Op.intArith,h2];rfl, .int _ _,hv.2⟩
 ·exact hv.elim
def qcM{s t:TypeId}{k k0:IntKind}{x:Operand}(ho:o.op= .convert s t x)(hs:P.underlying s=some (.int k0))(ht:P.underlying t=some (.int k))
 (hx:R tp I w (a.eval x) (ev σ x)) {H:ab} (hv:aj (.conv k x) σ H K):Good P o a tp I w K:=by
 simp only[aj]at hv;split at hv
 ·rename_i k1 n e1;rw[e1]at hx;have h1:=hx.inv_v;exact⟨.int k (k.wrap n),_,by simp[execOp,ho,h1,convert,run_underlying hs,run_underlying ht,Conv.intToInt], .int _ _,hv⟩
 ·exact hv.elim
def qkP:∀{cs:List D} {xs ys:List Value},qsi cs=some xs->ys.length=cs.length->(∀(k:Nat) (x:Value) (c:D),ys[k]? =some x->cs[k]? =some c->R tp I w x c)->ys=xs
 | [],xs,ys,h,hl,hr=>by
   cases h;exact qAN.1 hl
 |c::cs,xs, [],h,hl,hr=>by simp at hl
 | c::cs,xs,y::ys,h,hl,hr=>by
   cases c<;>simp only[qsi]at h<;>try (cases h;done)
   rename_i v;obtain⟨xs',h1,rfl⟩:=qz6.1 h;have h0:=(hr 0 y (.v v) rfl rfl).inv_v;rw[h0,qkP h1 (by simpa using hl) λk x c hx hc=>hr (k+1) x c hx hc]
def qcK{t:TypeId}{x:Operand}{fs:Array Field}(ho:o.op= .makeInterface t x)(ht:P.underlying t=some (.struct fs))(hx:R tp I w (a.eval x) (ev σ x)){H:ab}(hv:aj (.mkif t x) σ H K):Good P o a tp I w K:=by
 simp only[aj]at hv;split at hv
 ·rename_i cs e1;rw[e1]at hx;split at hv
  ·rename_i xs hxs;generalize hq:a.eval x=q at hx;cases hx with
   | agg ys _ hl h1 h=>
     have:=qkP hxs hl h;subst this;refine⟨.iface t (.agg ys.toArray),_,?_, .v _ rfl (λs hs=>by cases hs),hv⟩;simp[execOp,ho,hq,Instr.makeInterface,run_underlying ht]
  ·exact hv.elim
 ·exact hv.elim
def qf2{f:Nat}{first caps:Array Operand}(ho:o.op= .makeFunc (.func f) first caps)(hf:first.isEmpty=true)(hx:∀x∈caps.toList,R tp I w (a.eval x) (ev σ x)){H:ab}(hv:aj (.clo f caps.toList) σ H K):Good P o a tp I w K:=by
 simp only[aj]at hv;have hf':first= #[]:=by simpa using hf
 obtain⟨caps⟩:=caps;simp only at hv hx;refine⟨.func (.func f) #[] (caps.map a.eval).toArray,_,by simp[execOp,ho,Instr.makeFunc,hf'], .clo f _ _ (by simp) ?_,hv⟩;intro k x c hk hc;rw[qz7]at hk hc;cases hq:caps[k]? with
 |none=>simp[hq]at hk
 | some q=>
   rw[hq]at hk hc;simp at hk hc;subst hk;subst hc;exact hx q (qzY hq)
def qf1{x:Operand}{i:Nat}(ho:o.op= .extract x i)(hx:R tp I w (a.eval x) (ev σ x)){H:ab}(hv:aj (.ext x i) σ H K):Good P o a tp I w K:=by
 simp only[aj]at hv;split at hv
 ·rename_i ds e1;split at hv
  ·rename_i d hd;rw[e1]at hx;generalize hq:a.eval x=q at hx;cases hx with
   | tup xs ds hl h=>
     have hi:i<xs.length:=by rw[hl];exact(qzV.1 hd).1
     refine⟨xs[i],d,by simp[execOp,ho,hq,Instr.extract,hi],h i _ d (by simp[hi]) hd,hv⟩
  ·exact hv.elim
 ·exact hv.elim
end
end Go.Gv
