/- A part of the framework and of the walks: C. -/
import Derived.Test.YtphdikcommfnhaaGreatDoorGg01
set_option linter.unusedSimpArgs false
set_option linter.unusedVariables false
set_option linter.unusedSectionVars false

namespace Go.Gv
inductive WQ where
 | int|str|bool
inductive KK where
 | int (k:IntKind)|str|bool|ptr
inductive MOp where
 | mk
 | look (ok agg ka:Bool) (ks:List KK) (z:List Value)
 | upd (ka:Bool) (ks:List KK)
 | rng
 | next
 | entry
 | len
 | aidx (len sz:Nat)
def MOp.isRead:MOp->Bool
 | .look .. | .entry| .len| .aidx .. =>true
 | _=>false
inductive COp where
 | mv (x:Operand)
 | pick (c x y:Operand)
 | alloc (el:Nat) (z:List Value)
 | box (el:Nat) (im:Bool) (x:Operand)
 | tbx (el:Nat) (x:Operand)
 | build (z:List Value) (parts:List (Nat×Nat×Operand))
 | bslice (el n:Nat) (parts:List Operand)
 | nslice (el n:Nat)
 | mslice (el n:Nat) (parts:List Operand)
 | load (agg:Bool) (sz:Nat) (x:Operand)
 | store (rt:Option Nat) (sz:Nat) (x y:Operand)
 | nilck (x:Operand)
 | arith (op:BinOp) (x y:Operand)
 | cmp (op:BinOp) (x y:Operand)
 | eql (neg agg:Bool) (ks:List WQ) (x y:Operand)
 | scat (x y:Operand)
 | not (x:Operand)
 | neg (x:Operand)
 | conv (k:IntKind) (x:Operand)
 | clo (f:Nat) (caps:List Operand)
 | mkslice (el n bytes:Nat) (agg:Bool) (z:List Value) (l c:Operand)
 | slice (n:Nat) (x:Operand) (lo hi:Option Operand)
 | sslice (x:Operand) (lo hi:Option Operand)
 | faddr (off:Nat) (x:Operand)
 | fld (agg:Bool) (sz off:Nat) (x:Operand)
 | iaddr (n:Nat) (x i:Operand)
 | sidx (x i:Operand)
 | ext (x:Operand) (i:Nat)
 | len (x:Operand)
 | slen (x:Operand)
 | mm (mx:Bool) (xs:List Operand)
 | append (rt:Option Nat) (el n bytes:Nat) (x y:Operand)
 | appmk (el n bytes:Nat) (agg:Bool) (z:List Value) (x c:Operand)
 | clear (n:Nat) (agg:Bool) (z:List Value) (x:Operand)
 | copy (n:Nat) (x y:Operand)
 | cap (x:Operand)
 | srange (x:Operand)
 | snext (x:Operand)
 | sbytes (x:Operand)
 | bstr (x:Operand)
 | rstr (x:Operand)
 | mkif (t:Nat) (x:Operand)
 | m (o:MOp) (xs:List Operand)
 | bad
 | call (f:Nat) (args:List Operand)
 | callv (f:Operand) (args:List Operand)
 | callb (r f:Nat) (args:List Operand)
def uf:Value->D
 | .bool b=> .v (.bool b)
 | .int k n=> .v (.int k n)
 | .string s=> .v (.string s)
 | .pointer a=> .v (.pointer a)
 | .slice a l c=> .v (.slice a l c)
 | .nilFunc=> .v .nilFunc
 | .map a=> .v (.map a)
 | _=> .any
def ev(σ:Sg):Operand->D
 | .tmp t=>σ t
 | .const x=>uf x
 | .global g=> .v (.pointer (some ⟨g,0,none⟩))
 | .func f=> .clo f []
def xh:Operand->Bool
 | .const (.string s)=>decide (s.size<=1000000)
 | _=>true
def cA(P:Program)(t:TypeId):Option Nat:=(P.info? t).map (·.size)
def fC(P:Program)(t:TypeId):Option Bool:=
 match P.underlying t with
 | some (.struct _)|some (.array _ _)=>some true
 | some _=>some false
 | none=>none
def eh(P:Program)(t:TypeId):Option (List Value):=do
 let i <-P.info? t
 let z <-i.zero
 if z.cells.toList.all (·.oneCell') && z.cells.size==i.size && z.cells.toList.all (fun x=>match x with| .string s=>decide (s.size<=1000000)| .bool _| .int _ _| .pointer _| .slice _ _ _| .nilFunc| .map _=>true|_=>false)then some z.cells.toList else none
def F6(P:Program)(t:TypeId)(agg:Bool):Bool:=match(P.info? t).bind (·.zero)with
 | some (.agg _)=>agg
 | some x=>!agg && x.oneCell'
 | none=>false
def zO(P:Program)(kf:TypeId->Option (List KK)):List Field->Nat->Option (List KK)
 | [],_=>some []
 | f::r,off=>do
   let ks <-kf f.type
   if f.offset = off && decide (f.name ≠ "_") && decide (cA P f.type = some ks.length) then
    let l <-zO P kf r (off+ks.length)
    some (ks++l)
   else none
def FS(P:Program):Nat->TypeId->Option (List KK)
 | 0,_=>none
 | n+1,t=>match P.underlying t with
   | some (.int k)=>some [.int k]
   | some .string=>some [.str]
   | some .bool=>some [.bool]
   | some (.pointer e)=>match cA P e with
     | some (_+1)=>some [.ptr]
     | _=>none
   | some (.struct fs)=>if P.stoodInHeld t then none else zO P (FS P n) fs.toList 0
   | some (.array len e)=>do
     let ks <-FS P n e
     if cA P e=some ks.length then some (List.replicate len ks).flatten else none
   | _=>none
def qcQ(P:Program)(t:TypeId):Option (Bool×List KK):=do
 let ka <-fC P t
 let ks <-FS P 50 t
 some (ka,ks)
def jN(P:Program)(t:TypeId):Option WQ:=
 match P.underlying t with
 | some (.int _)=>some .int
 | some .string=>some .str
 | some .bool=>some .bool
 | _=>none
def wx(P:Program)(t:TypeId):Option (List WQ):=
 match P.underlying t with
 | some (.struct fs)=>
   if !P.stoodInHeld t && !P.eqGuardType P.depth t && decide (fs.toList.map (·.offset) = List.range' 0 fs.toList.length) && fs.toList.all (fun f => decide (f.name ≠ "_")) then fs.toList.mapM (fun f => jN P f.type) else none
 | _=>none
def lK(P:Program)(neg:Bool)(t:TypeId)(x y:Operand):Option COp:=
 match jN P t with
 | some k=>some (.eql neg false [k] x y)
 | none=>(wx P t).map fun ks=> .eql neg true ks x y
def uy(parts:Array (Nat×Operand))(n:Nat):Option (List Operand):=
 if parts.toList.map (·.1)=List.range n then some (parts.toList.map (·.2))else none
def Z6(im:List Nat)(d:Option Nat):Bool:=d.any im.contains
def qjm(im:List Nat)(d:Option Nat):Bool:=d.any fun d=>im.contains (d+100000)
def qbY(im:List Nat)(d:Option Nat):Bool:=d.any fun d=>im.contains (d+200000)
def Yr(im:List Nat)(d:Option Nat):Option Nat:=d.bind fun d=>(im.find? fun c=>c/1000=1000+d).map fun c=>c % 1000
def qfM(im:List Nat)(x:Operand):Option Nat:=match x with
 | .tmp t=>(im.find? fun c=>c/1000=2000+t).map fun c=>c % 1000
 | _=>none
def Uh(im:List Nat)(d:Option Nat):Option Nat:=d.bind fun d=>(im.find? fun c=>c/1000=3000+d).map fun c=>c % 1000
def Si(b:Option Nat)(f:Nat)(args:List Operand):COp:=match b with
 | none=> .call f args
 | some r=> .callb r f args
def qel(im:List Nat):Bool:=im.contains 300000
def An:Nat:=1000000007
def ML(P:Program)(t:TypeId):Bool:=match P.underlying t with|some (.int _)=>true|_=>false
def ca(P:Program)(im:List Nat)(o:Oper):Option COp:=
 if !o.op.operands.toList.all xh then none else
 match o.op with
 | .move x| .assign x=>some (.mv x)
 | .pick c x y=>some (.pick c x y)
 | .alloc el=>do some (.alloc el (<-eh P el))
 | .box el x=>if qbY im o.dst then some (.tbx el x)else some (.box el (Z6 im o.dst) x)
 | .build t parts=>do
   let z <-eh P t
   match P.underlying t with
   | some (.struct fs)=>
     let ps <-parts.toList.mapM fun p=>do
      let f <-fs[p.1]?
      let sz <-cA P f.type
      if f.offset+sz<=z.length then some (f.offset,sz,p.2)else none
     if fs.toList.all (fun f=>(cA P f.type).isSome)then some (.build z ps)else none
   | some (.array _ el)=>
     let sz <-cA P el
     let ps <-parts.toList.mapM fun p=>if p.1*sz+sz<=z.length then some (p.1*sz,sz,p.2)else none
     some (.build z ps)
   | _=>none
 | .buildSlice t len parts=>do
   match P.underlying t with
   | some (.slice el)=>
     let n <-cA P el
     let _ <-eh P el
     let ps <-uy parts len
     if len*n<=2^24 && 0 < n then(if len=0 then some (.nslice el n)else if qjm im o.dst then some (.mslice el n ps)else some (.bslice el n ps))else none
   | _=>none
 | .load t x=>do
   let agg <-fC P t
   let sz <-cA P t
   if agg||sz=1 then some (.load agg sz x)else none
 | .store t x y=>do some (.store (qfM im x) (<-cA P t) x y)
 | .nilCheck x=>some (.nilck x)
 | .binOp op t x y _=>
   match op with
   | .add=>if ML P t then some (.arith .add x y)else match P.underlying t with|some .string=>some (.scat x y)|_=>none
   | .sub| .mul| .quo| .rem=>if ML P t then some (.arith op x y)else none
   | .and| .or| .shl| .shr=>if ML P t then some (.arith op x y)else none
   | .lss| .leq| .gtr| .geq=>if ML P t then some (.cmp op x y)else match P.underlying t with|some .string=>some (.cmp op x y)|_=>none
   | .eql=>lK P false t x y
   | .neq=>lK P true t x y
   | _=>none
 | .unOp .not _ x=>some (.not x)
 | .unOp .neg _ x=>some (.neg x)
 | .convert s t x=>
   match P.underlying s,P.underlying t with
   | some (.int _),some (.int k)=>some (.conv k x)
   | some (.int _),some .string=>some (.rstr x)
   | some .string,some (.slice el)=>match P.underlying el with
     | some (.int .u8)=>some (.sbytes x)
     | _=>none
   | some (.slice el),some .string=>match P.underlying el with
     | some (.int .u8)=>some (.bstr x)
     | _=>none
   | _,_=>none
 | .makeFunc (.func f) first caps=>if first.isEmpty then some (.clo f caps.toList)else none
 | .makeSlice t l c=>do
   match P.underlying t with
   | some (.slice el)=>
     let n <-cA P el
     let z <-eh P el
     let b:=P.bytesOf el
     let agg <-fC P el
     if 0 < n && (agg||n=1)then some (.mkslice el n b agg z l c)else none
   | _=>none
 | .slice t x lo hi none=>
   match P.underlying t with
   | some (.slice el)=>do some (.slice (<-cA P el) x lo hi)
   | some .string=>some (.sslice x lo hi)
   | _=>none
 | .fieldAddr t x f=>do
   match P.underlying t with
   | some (.struct fs)=>
     let fd <-fs[f]?
     let sz <-cA P fd.type
     if 0 < sz then some (.faddr fd.offset x)else none
   | _=>none
 | .field t x f=>do
   match P.underlying t with
   | some (.struct fs)=>
     let fd <-fs[f]?
     let agg <-fC P fd.type
     let sz <-cA P fd.type
     if agg||sz=1 then some (.fld agg sz fd.offset x)else none
   | _=>none
 | .indexAddr t x i=>do
   match P.underlying t with
   | some (.slice el)=>some (.iaddr (<-cA P el) x i)
   | some (.array len el)=>match i with
     | .const (.int .i64 k)=>do
       let sz <-cA P el
       if 0<=k/\k < len then some (.faddr (k.toNat*sz) x)else none
     | _=>do some (.m (.aidx len (<-cA P el)) [x,i])
   | _=>none
 | .index t x i=>
   match P.underlying t with
   | some .string=>some (.sidx x i)
   | _=>none
 | .extract x i=>some (.ext x i)
 | .range t x=>match P.underlying t with
   | some .string=>some (.srange x)
   | some (.map _ _)=>some (.m .rng [x])
   | _=>none
 | .next x true=>some (.snext x)
 | .next x false=>some (.m .next [x])
 | .entry x=>some (.m .entry [x])
 | .makeMap t none=>some (.m .mk [])
 | .lookup t x k ok=>match P.underlying t with
   | some (.map kt et)=>do
     let (ka,ks) <-qcQ P kt
     let z <-eh P et
     let agg <-fC P et
     if F6 P et agg then some (.m (.look ok agg ka ks z) [x,k])else none
   | _=>none
 | .mapUpdate t x k v| .insert t x k v=>match P.underlying t with
   | some (.map kt _)=>do
     let (ka,ks) <-qcQ P kt
     some (.m (.upd ka ks) [x,k,v])
   | _=>none
 | .makeInterface t x=>if qel im then(match P.underlying t with|some (.struct _)=>some (.mkif t x)|_=>none)else some .bad
 | .panic x=>if qel im && decide (P.funcs.size<=An)then some (.call An [x])else some .bad
 | .call c=>
   match c.callee with
   | .value (.func f)=>if f=An then none else some (Si (Uh im o.dst) f c.args.toList)
   | .value f=>some (.callv f c.args.toList)
   | .builtin .len=>match c.argTypes.toList,c.args.toList with
     | [t], [x]=>match P.underlying t with|some (.slice _)=>some (.len x)|some .string=>some (.slen x)|some (.map _ _)=>some (.m .len [x])|_=>none
     | _,_=>none
   | .builtin .min=>some (.mm false c.args.toList)
   | .builtin .max=>some (.mm true c.args.toList)
   | .builtin .append=>match c.argTypes.toList,c.args.toList with
     | [t,u], [x,y]=>if t=u then(match P.underlying t with
       | some (.slice el)=>do
         let n <-cA P el
         let _ <-eh P el
         if 0 < n then some (.append (Yr im o.dst) el n (P.bytesOf el) x y)else none
       | _=>none)else(match P.underlying t,P.underlying u with
       | some (.slice el),some (.int _)=>do
         let n <-cA P el
         let z <-eh P el
         let agg <-fC P el
         if 0 < n && (agg||n=1)then some (.appmk el n (P.bytesOf el) agg z x y)else none
       | some (.slice el),some .string=>do
         let n <-cA P el
         let _ <-eh P el
         if n=1 then some (.append (Yr im o.dst) el n (P.bytesOf el) x y)else none
       | _,_=>none)
     | _,_=>none
   | .builtin .clear=>match c.argTypes.toList,c.args.toList with
     | [t], [x]=>match P.underlying t with
       | some (.slice el)=>do
         let n <-cA P el
         let z <-eh P el
         let agg <-fC P el
         if 0 < n && (agg||n=1)then some (.clear n agg z x)else none
       | _=>none
     | _,_=>none
   | .builtin .copy=>match c.argTypes.toList,c.args.toList with
     | [t,u], [x,y]=>if t=u then(match P.underlying t with
       | some (.slice el)=>do
         let n <-cA P el
         if 0 < n then some (.copy n x y)else none
       | _=>none)else none
     | _,_=>none
   | .builtin .cap=>match c.argTypes.toList,c.args.toList with
     | [t], [x]=>match P.underlying t with|some (.slice _)=>some (.cap x)|_=>none
     | _,_=>none
   | _=>none
 | _=>none
abbrev PT:=Nat->List D->ab->(D->ab->Prop)->Prop
structure PC where
 pre:List D->Prop
 post:List D->D->Prop
def oL(A:PT):Prop:=∀ (d:Nat) (ds:List D) (H:ab) (K K':D->ab->Prop),(∀r H,K r H->K' r H)->A d ds H K->A d ds H K'
inductive Spc where
 | none
 | pure (c:PC)
 | gen (A:PT) (h:oL A)
def Spc.pt:Spc->PT
 | .none=>fun _ _ _ _=>False
 | .pure c=>fun _ ds H K=>c.pre ds/\∀r,c.post ds r->K r H
 | .gen A _=>A
def InR:IntKind->Int->Prop
 | .i64,n=> -9223372036854775808<=n/\n<=9223372036854775807
 | .i32,n=> -2147483648<=n/\n<=2147483647
 | .i16,n=> -32768<=n/\n<=32767
 | .i8,n=> -128<=n/\n<=127
 | .u64,n=>0<=n/\n<=18446744073709551615
 | .u32,n=>0<=n/\n<=4294967295
 | .u16,n=>0<=n/\n<=65535
 | .u8,n=>0<=n/\n<=255
theorem InR.wrap{k:IntKind}{n:Int}(h:InR k n):k.wrap n=n:=by
 cases k <;> simp only[InR]at h <;> simp[IntKind.wrap,IntKind.bits,IntKind.signed] <;> omega
def So(k:IntKind)(a b:Int):Int:=k.wrap (BitVec.ofInt k.bits a &&& BitVec.ofInt k.bits b).toNat
def qjd(k:IntKind)(a b:Int):Int:=k.wrap (BitVec.ofInt k.bits a|||BitVec.ofInt k.bits b).toNat
def Oi(k:IntKind)(a b:Int):Int:=k.wrap (a*2^min b.toNat k.bits)
def XI(k:IntKind)(a b:Int):Int:=a.fdiv (2^min b.toNat k.bits)
def WU(op:BinOp)(k k':IntKind):Prop:=match op with
 | .shl| .shr=>True
 | _=>k=k'
def gk(op:BinOp)(k:IntKind)(a b:Int)(K:D->Prop):Prop:=
 match op with
 | .add=>InR k (a+b)/\K (.v (.int k (a+b)))
 | .sub=>InR k (a -b)/\K (.v (.int k (a -b)))
 | .mul=>InR k (a*b)/\K (.v (.int k (a*b)))
 | .quo=>b≠0/\InR k (a.tdiv b)/\K (.v (.int k (a.tdiv b)))
 | .rem=>b≠0/\K (.v (.int k (a.tmod b)))
 | .and=>K (.v (.int k (So k a b)))
 | .or=>K (.v (.int k (qjd k a b)))
 | .shl=>0<=b/\K (.v (.int k (Oi k a b)))
 | .shr=>0<=b/\K (.v (.int k (XI k a b)))
 | _=>False
def P3(op:BinOp)(a b:Int):Option Bool:=
 match op with
 | .lss=>some (decide (a < b))
 | .leq=>some (decide (a<=b))
 | .gtr=>some (decide (b < a))
 | .geq=>some (decide (b<=a))
 | _=>none
def Sc(op:BinOp)(a b:ByteArray):Option Bool:=
 match op with
 | .lss=>some (Op.bytesLess a.toList b.toList)
 | .leq=>some (Op.bytesLess a.toList b.toList||a.toList==b.toList)
 | .gtr=>some (!(Op.bytesLess a.toList b.toList||a.toList==b.toList))
 | .geq=>some (!Op.bytesLess a.toList b.toList)
 | _=>none
def qlV:List D->Option (List Value)
 | []=>some []
 | .v x::l=>(qlV l).map (x:: ·)
 | _=>none
def tt:D->Option (IntKind×Int)
 | .v (.int k n)=>some (k,n)
 | _=>none
def qnW:D->Option ByteArray
 | .v (.string s)=>some s
 | _=>none
def qnX:D->Option Bool
 | .v (.bool b)=>some b
 | _=>none
def WV(k:WQ)(d e:D):Option Bool:=
 match k with
 | .int=>(tt d).bind fun p=>(tt e).bind fun q=>if p.1=q.1 then some (decide (p.2=q.2))else none
 | .str=>(qnW d).bind fun p=>(qnW e).bind fun q=>some (decide (p=q))
 | .bool=>(qnX d).bind fun p=>(qnX e).bind fun q=>some (decide (p=q))
def qdl:List WQ->List D->List D->Option Bool
 | [],as,bs=>if as.isEmpty && bs.isEmpty then some true else none
 | k::ks,as,bs=>as.head?.bind fun a=>bs.head?.bind fun b=>(WV k a b).bind fun p=>(qdl ks as.tail bs.tail).bind fun q=>some (p && q)
def nq:D->Option (List D)
 | .agg cs=>some cs
 | _=>none
def qgB(agg:Bool)(ks:List WQ)(a b:D):Option Bool:=
 if agg then(nq a).bind fun as=>(nq b).bind fun bs=>qdl ks as bs
 else match ks with
  | [k]=>WV k a b
  | _=>none
def tj(lo hi:Option (Option (IntKind×Int)))(len:Nat)(K:Nat->Nat->Prop):Prop:=
 match lo,hi with
 | none,none=>K 0 len
 | some (some (_,l)),none=>0<=l/\l<=len/\K l.toNat len
 | none,some (some (_,h))=>0<=h/\h<=len/\K 0 h.toNat
 | some (some (_,l)),some (some (_,h))=>0<=l/\l<=h/\h<=len/\K l.toNat h.toNat
 | _,_=>False
def NE(agg:Bool)(z:List Value):D:=if agg then .agg (z.map uf)else uf (z.headD (.bool false))
def setAt(l:List D)(off:Nat)(new:List D):List D:=l.take off++new++l.drop (off+new.length)
def KN(agg:Bool)(sz:Nat)(cs:List D)(off:Nat):D:=if agg then .agg ((cs.drop off).take sz)else(cs[off]?).getD .any
def ju(σ:Sg):List (Nat×Nat×Operand)->List D->(List D->Prop)->Prop
 | [],cs,K=>K cs
 | (off,sz,x)::r,cs,K=>(ev σ x).kn=true/\(ev σ x).cells.length=sz/\ju σ r (setAt cs off (ev σ x).cells) K
def kA(n:Nat):List D->Prop
 | []=>True
 | d::r=>d.kn=true/\d.cells.length=n/\kA n r
def Sl:D->Option UInt8
 | .v (.int .u8 n)=>some (UInt8.ofNat n.toNat)
 | _=>none
def qeD(es:List D):Bool:=es.all fun d=>(Sl d).isSome
def qg4(es:List D):ByteArray:=⟨(es.map fun d=>(Sl d).getD 0).toArray⟩
def ZP:KK->D->Bool
 | .int k, .v (.int k' _)=>decide (k=k')
 | .str, .v (.string _)=>true
 | .bool, .v (.bool _)=>true
 | .ptr, .cptr cs _=>decide (cs.length≠1)
 | .ptr, .v (.pointer none)=>true
 | _,_=>false
def RZ:List KK->List D->Bool
 | [], []=>true
 | k::ks,d::ds=>ZP k d && RZ ks ds
 | _,_=>false
def JT(ka:Bool)(ks:List KK)(d:D):Bool:=
 if ka then(match nq d with|some cs=>RZ ks cs|none=>false)else(match ks with|[k]=>ZP k d|_=>false)
def Pq(ka:Bool)(ks:List KK):D->Bool
 | .tup [k,_]=>JT ka ks k
 | _=>false
def qhT:D->Bool
 | .v _=>true
 | _=>false
def Dr(d:D):Bool:=d.cells.all qhT
def IX(a b:D):Prop:=∃ (tp I:Nat->Prop) (w:World) (x:Value),R tp I w x a/\R tp I w x b
def yG(d:D)(H:ab)(K:List D->Prop):Prop:=
 match d with
 | .mp es=>K es
 | .v (.map none)=>K []
 | .own id x=>match H id with
   | some (.mrow x' es)=>x'=x/\K es
   | _=>False
 | _=>False
def qeu(ok:Bool)(v:D)(b:Bool):D:=if ok then .tup [v, .v (.bool b)]else v
def vZ(ok agg ka:Bool)(ks:List KK)(z:List Value)(k:D)(es:List D)(K:D->Prop):Prop:=
 es.all (Pq ka ks)=true/\JT ka ks k=true/\(∀k' v,D.tup [k',v] ∈es->IX k k'->K (qeu ok v true))/\((Dr k=true->∀v,D.tup [k,v] ∉es)->K (qeu ok (NE agg z) false))
def Ai(ka:Bool)(ks:List KK)(k v:D)(es:List D)(K:List D->Prop):Prop:=
 es.all (Pq ka ks)=true/\JT ka ks k=true/\(∀l1 k' v' l2,es=l1++D.tup [k',v']::l2->IX k k'->K (l1++D.tup [k,v]::l2))/\((Dr k=true->∀v',D.tup [k,v'] ∉es)->K (es++ [.tup [k,v]]))
def Il(off:Nat)(d:D)(K:D->Prop):Prop:=match d with
 | .cptr cs o=>K (.cptr cs (o+off))
 | .bptr id b o=>K (.bptr id b (o+off))
 | .eptr id x n i o=>K (.eptr id x n i (o+off))
 | _=>False
def ta(o:MOp)(ds:List D)(H:ab)(K:D->Prop):Prop:=
 match o,ds with
 | .look ok agg ka ks z, [x,k]=>yG x H fun es=>vZ ok agg ka ks z k es K
 | .len, [x]=>yG x H fun es=>K (.v (.int .i64 es.length))
 | .entry, [.bptr id b off]=>off=0/\match H id with
   | some (.miter b' [e] _)=>b'=b/\K e
   | _=>False
 | .aidx len sz, [x, .v (.int _ k)]=>0<=k/\k < len/\Il (k.toNat*sz) x K
 | _,_=>False
def ib(o:MOp)(ds:List D)(dst:Option Nat)(H:ab)(K:D->ab->Prop):Prop:=
 match o,ds with
 | .mk, []=>match dst with
   | some t=>∀x,K (.own t x) (ah H t (some (.mrow x [])))
   | none=>False
 | .upd ka ks, [.own id x,k,v]=>match H id with
   | some (.mrow x' es)=>x'=x/\Ai ka ks k v es fun es'=>K .undef (ah H id (some (.mrow x' es')))
   | _=>False
 | .rng, [x]=>match dst with
   | some t=>(match x with
     | .mp es=>∀b,K (.bptr t b 0) (ah H t (some (.miter b [] es)))
     | .v (.map none)=>∀b,K (.bptr t b 0) (ah H t (some (.miter b [] [])))
     | _=>False)
   | none=>False
 | .next, [.bptr id b off]=>off=0/\match H id with
   | some (.miter b' cur left)=>b'=b/\(left=[]->K (.tup [.v (.bool false)]) H)/\∀l1 e l2,left=l1++e::l2->K (.tup [.v (.bool true), .any, .any]) (ah H id (some (.miter b' [e] (l1++l2))))
   | _=>False
 | o,ds=>ta o ds H fun d=>K d H
def ak(c:COp)(σ:Sg)(H:ab)(K:D->Prop):Prop:=
 match c with
 | .mv x=>K (ev σ x)
 | .pick c x y=>match ev σ c with
   | .v (.bool t)=>(t=true->K (ev σ x))/\(t=false->K (ev σ y))
   | _=>False
 | .box _ true x=>(ev σ x).kn=true/\K (.cptr (ev σ x).cells 0)
 | .build z parts=>ju σ parts (z.map uf) fun cs=>K (.agg cs)
 | .bslice _ n ps=>kA n (ps.map (ev σ))/\K (.list n (ps.map (ev σ)))
 | .load agg sz x=>match ev σ x with
   | .cptr cs off=>off+sz<=cs.length/\K (KN agg sz cs off)
   | .bptr id b off=>match H id with
     | some (.box b' cells)=>b'=b/\off+sz<=cells.length/\K (KN agg sz cells off)
     | _=>False
   | .eptr id x n i off=>match H id with
     | some (.row x' _ n' es)=>x'=x/\n'=n/\off+sz<=n/\i < es.length/\∀d,es[i]? =some d->K (KN agg sz d.cells off)
     | _=>False
   | _=>False
 | .nilck x=>match ev σ x with
   | .cptr cs off=>K (.cptr cs off)
   | .bptr id b off=>K (.bptr id b off)
   | .eptr id x n i off=>K (.eptr id x n i off)
   | .tape L=>K (.tape L)
   | .clo f caps=>K (.clo f caps)
   | _=>False
 | .arith op x y=>match ev σ x,ev σ y with
   | .v (.int k a), .v (.int k' b)=>WU op k k'/\gk op k a b K
   | _,_=>False
 | .cmp op x y=>match ev σ x,ev σ y with
   | .v (.int k a), .v (.int k' b)=>k=k'/\(match P3 op a b with|some t=>K (.v (.bool t))|none=>False)
   | .v (.string a), .v (.string b)=>match Sc op a b with|some t=>K (.v (.bool t))|none=>False
   | _,_=>False
 | .eql neg agg ks x y=>match qgB agg ks (ev σ x) (ev σ y)with
   | some p=>K (.v (.bool (if neg then !p else p)))
   | none=>False
 | .scat x y=>match ev σ x,ev σ y with
   | .v (.string a), .v (.string b)=>a.size+b.size<=1000000000/\K (.v (.string (a++b)))
   | _,_=>False
 | .not x=>match ev σ x with
   | .v (.bool b)=>K (.v (.bool (!b)))
   | _=>False
 | .neg x=>match ev σ x with
   | .v (.int k n)=>InR k (0 -n)/\K (.v (.int k (0 -n)))
   | _=>False
 | .conv k x=>match ev σ x with
   | .v (.int _ n)=>K (.v (.int k (k.wrap n)))
   | _=>False
 | .clo f caps=>K (.clo f (caps.map (ev σ)))
 | .slice n x lo hi=>match ev σ x with
   | .list n' es=>n'=n/\(match lo.map (fun o=>tt (ev σ o)),hi.map (fun o=>tt (ev σ o))with
     | none,none=>K (.list n es)
     | some (some (_,l)),none=>0<=l/\l<=es.length/\K (.list n (es.drop l.toNat))
     | none,some (some (_,h))=>0<=h/\h<=es.length/\K (.list n (es.take h.toNat))
     | some (some (_,l)),some (some (_,h))=>0<=l/\l<=h/\h<=es.length/\K (.list n ((es.take h.toNat).drop l.toNat))
     | _,_=>False)
   | .own id x=>match H id with
     | some (.row x' _ n' es)=>x'=x/\n'=n/\tj (lo.map fun o=>tt (ev σ o)) (hi.map fun o=>tt (ev σ o)) es.length fun l h=>K (.sub id x n l h)
     | _=>False
   | .sub id x n' a b=>n'=n/\tj (lo.map fun o=>tt (ev σ o)) (hi.map fun o=>tt (ev σ o)) (b -a) fun l h=>K (.sub id x n (a+l) (a+h))
   | .v (.slice none 0 0)=>tj (lo.map fun o=>tt (ev σ o)) (hi.map fun o=>tt (ev σ o)) 0 fun _ _=>K (.v (.slice none 0 0))
   | _=>False
 | .sslice x lo hi=>match ev σ x with
   | .v (.string s)=>(match lo.map (fun o=>tt (ev σ o)),hi.map (fun o=>tt (ev σ o))with
     | none,none=>K (.v (.string (s.extract 0 s.size)))
     | some (some (_,l)),none=>0<=l/\l<=s.size/\K (.v (.string (s.extract l.toNat s.size)))
     | none,some (some (_,h))=>0<=h/\h<=s.size/\K (.v (.string (s.extract 0 h.toNat)))
     | some (some (_,l)),some (some (_,h))=>0<=l/\l<=h/\h<=s.size/\K (.v (.string (s.extract l.toNat h.toNat)))
     | _,_=>False)
   | _=>False
 | .faddr off x=>match ev σ x with
   | .cptr cs o=>K (.cptr cs (o+off))
   | .bptr id b o=>K (.bptr id b (o+off))
   | .eptr id x n i o=>K (.eptr id x n i (o+off))
   | _=>False
 | .fld agg sz off x=>match ev σ x with
   | .agg cs=>off+sz<=cs.length/\K (KN agg sz cs off)
   | _=>False
 | .iaddr n x i=>match ev σ i with
   | .v (.int _ k)=>match ev σ x with
     | .list n' es=>n'=n/\0<=k/\k < es.length/\∀d,es[k.toNat]? =some d->K (.cptr d.cells 0)
     | .own id x=>match H id with
       | some (.row x' _ n' es)=>x'=x/\n'=n/\0<=k/\k < es.length/\K (.eptr id x n k.toNat 0)
       | _=>False
     | .sub id x n' lo hi=>n'=n/\0<=k/\k < (hi -lo:Nat)/\K (.eptr id x n (lo+k.toNat) 0)
     | _=>False
   | _=>False
 | .sidx x i=>match ev σ i with
   | .v (.int _ k)=>match ev σ x with
     | .v (.string s)=>0<=k/\k < s.size/\∀c,s.data[k.toNat]? =some c->K (.v (.int .u8 c.toNat))
     | _=>False
   | _=>False
 | .ext x i=>match ev σ x with
   | .tup ds=>match ds[i]? with
     | some d=>K d
     | none=>False
   | _=>False
 | .len x=>match ev σ x with
   | .list _ es=>(es.length:Int)<=9223372036854775807->K (.v (.int .i64 es.length))
   | .own id x=>match H id with
     | some (.row x' _ _ es)=>x'=x/\((es.length:Int)<=9223372036854775807->K (.v (.int .i64 es.length)))
     | _=>False
   | .v (.slice _ n _)=>K (.v (.int .i64 n))
   | .sub _ _ _ lo hi=>((hi -lo:Nat):Int)<=9223372036854775807->K (.v (.int .i64 (hi -lo:Nat)))
   | _=>False
 | .cap x=>match ev σ x with
   | .v (.slice none 0 0)=>K (.v (.int .i64 0))
   | _=>False
 | .sbytes x=>match ev σ x with
   | .v (.string s)=>K (.list 1 (s.data.toList.map fun c=> .v (.int .u8 c.toNat)))
   | _=>False
 | .bstr x=>match ev σ x with
   | .own id x=>match H id with
     | some (.row x' _ n es)=>x'=x/\n=1/\qeD es=true/\K (.v (.string (qg4 es)))
     | _=>False
   | .v (.slice none 0 0)=>K (.v (.string ⟨#[]⟩))
   | _=>False
 | .rstr x=>match ev σ x with
   | .v (.int _ n)=>K (.v (.string (Utf8.encode n)))
   | _=>False
 | .mkif t x=>match ev σ x with
   | .agg cs=>match qlV cs with
     | some xs=>K (.v (.iface t (.agg xs.toArray)))
     | none=>False
   | _=>False
 | .slen x=>match ev σ x with
   | .v (.string s)=>(s.size:Int)<=9223372036854775807->K (.v (.int .i64 s.size))
   | _=>False
 | .m o xs=>ta o (xs.map (ev σ)) H K
 | .mm mx [x,y]=>match ev σ x,ev σ y with
   | .v (.int k a), .v (.int k' b)=>k=k'/\K (.v (.int k (if mx then max a b else min a b)))
   | _,_=>False
 | .mm mx [x,y,z]=>match ev σ x,ev σ y,ev σ z with
   | .v (.int k a), .v (.int k' b), .v (.int k'' c)=>k=k'/\k=k''/\K (.v (.int k (if mx then max (max a b) c else min (min a b) c)))
   | _,_,_=>False
 | _=>False
def lM(n:Nat)(d:D)(H:ab)(K:List D->Prop):Prop:=
 match d with
 | .list n' es=>n'=n/\K es
 | .own id x=>match H id with
   | some (.row x' _ n' es)=>x'=x/\n'=n/\K es
   | _=>False
 | .v (.slice none 0 0)=>K []
 | .sub id x n' lo hi=>match H id with
   | some (.row x' _ n'' es)=>x'=x/\n'=n/\n''=n/\K ((es.take hi).drop lo)
   | _=>False
 | _=>False
def DP(s:ByteArray):List D:=s.data.toList.map fun b=> .v (.int .u8 b.toNat)
def tA(n:Nat)(d:D)(H:ab)(K:List D->Prop):Prop:=
 match d with
 | .v (.string s)=>n=1/\K (DP s)
 | d=>lM n d H K
def bi(c:COp)(dst:Option Nat)(σ:Sg)(H:ab)(K:D->ab->Prop):Prop:=
 match c with
 | .alloc _ z=>match dst with
   | some t=>∀b,K (.bptr t b 0) (ah H t (some (.box b (z.map uf))))
   | none=>False
 | .box _ false x=>match dst with
   | some t=>(ev σ x).kn=true/\∀b,K (.bptr t b 0) (ah H t (some (.box b (ev σ x).cells)))
   | none=>False
 | .tbx el x=>match dst with
   | some t=>(ev σ x).kn=true/\∀b,K (.bptr t b 0) (ah H t (some (.tbox el b (ev σ x).cells)))
   | none=>False
 | .nslice el n=>match dst with
   | some t=>∀x,K (.own t x) (ah H t (some (.row x el n [])))
   | none=>False
 | .mslice el n ps=>match dst with
   | some t=>kA n (ps.map (ev σ))/\∀x,K (.own t x) (ah H t (some (.row x el n (ps.map (ev σ)))))
   | none=>False
 | .mkslice el n bytes agg z l c=>match dst with
   | some t=>match tt (ev σ l),tt (ev σ c)with
     | some (_,l),some (_,c)=>0<=l/\l<=c/\bytes*c<=140737488355328/\c<=140737488355328/\∀x,K (.own t x) (ah H t (some (.row x el n (List.replicate l.toNat (if agg then .agg (z.map uf)else uf (z.headD (.bool false)))))))
     | _,_=>False
   | none=>False
 | .store _ sz x y=>(ev σ y).kn=true/\(ev σ y).cells.length=sz/\match ev σ x with
   | .bptr id b off=>match H id with
     | some (.box b' cells)=>b'=b/\off+sz<=cells.length/\K .undef (ah H id (some (.box b' (setAt cells off (ev σ y).cells))))
     | _=>False
   | .eptr id x n i off=>match H id with
     | some (.row x' el n' es)=>x'=x/\n'=n/\0 < n/\off+sz<=n/\i < es.length/\∀d,es[i]? =some d->
        K .undef (ah H id (some (.row x' el n' (es.set i (if off=0/\sz=n then ev σ y else .agg (setAt d.cells off (ev σ y).cells))))))
     | _=>False
   | _=>False
 | .srange x=>match dst,ev σ x with
   | some t, .v (.string s)=>∀b,K (.bptr t b 0) (ah H t (some (.iter b s 0)))
   | _,_=>False
 | .snext x=>match ev σ x with
   | .bptr id b off=>off=0/\match H id with
     | some (.iter b' s pos)=>b'=b/\(pos < s.size->K (.tup [.v (.bool true), .v (.int .i64 pos), .v (.int .i32 (Utf8.decode s pos).1)]) (ah H id (some (.iter b' s (pos+ (Utf8.decode s pos).2)))))/\(¬pos < s.size->K (.tup [.v (.bool false)]) H)
     | _=>False
   | _=>False
 | .append _ el n bytes x y=>tA n (ev σ y) H fun es2=>match ev σ x with
   | .own id x=>match H id with
     | some (.row x' el' n' es)=>x'=x/\el'=el/\n'=n/\(es.length+es2.length) *bytes<=140737488355328/\es.length+es2.length<=140737488355328/\∀v,K (.own id v) (ah H id (some (.row v el n (es++es2))))
     | _=>False
   | .v (.slice none 0 0)=>match dst with
     | some t=>es2.length*bytes<=140737488355328/\es2.length<=140737488355328/\∀v,K (.own t v) (ah H t (some (.row v el n es2)))
     | none=>False
   | .sub id x n' lo hi=>match H id with
     | some (.row x' el' n'' es)=>x'=x/\el'=el/\n'=n/\n''=n/\lo=0/\(hi+es2.length) *bytes<=140737488355328/\hi+es2.length<=140737488355328/\∀v,K (.own id v) (ah H id (some (.row v el n (es.take hi++es2))))
     | _=>False
   | _=>False
 | .appmk el n bytes agg z x c=>match ev σ x with
   | .v (.slice none 0 0)=>match dst,tt (ev σ c)with
     | some t,some (_,c)=>0<=c/\c*bytes<=140737488355328/\c<=140737488355328/\∀v,K (.own t v) (ah H t (some (.row v el n (List.replicate c.toNat (NE agg z)))))
     | _,_=>False
   | _=>False
 | .clear n agg z x=>match ev σ x with
   | .own id x=>match H id with
     | some (.row x' el n' es)=>x'=x/\n'=n/\K (.tup []) (ah H id (some (.row x' el n' (List.replicate es.length (NE agg z)))))
     | _=>False
   | .sub id x n' lo hi=>match H id with
     | some (.row x' el n'' es)=>x'=x/\n'=n/\n''=n/\K (.tup []) (ah H id (some (.row x' el n'' (es.take lo++List.replicate (hi -lo) (NE agg z) ++es.drop hi))))
     | _=>False
   | .v (.slice none 0 0)=>K (.tup []) H
   | _=>False
 | .copy n x y=>lM n (ev σ y) H fun src=>match ev σ x with
   | .own id x=>match H id with
     | some (.row x' el n' es)=>x'=x/\n'=n/\K (.v (.int .i64 (min src.length es.length:Nat))) (ah H id (some (.row x' el n' (src.take es.length++es.drop src.length))))
     | _=>False
   | .sub id x n' lo hi=>match H id with
     | some (.row x' el n'' es)=>x'=x/\n'=n/\n''=n/\K (.v (.int .i64 (min src.length (hi -lo):Nat))) (ah H id (some (.row x' el n'' (es.take lo++src.take (hi -lo) ++es.drop (lo+min src.length (hi -lo))))))
     | _=>False
   | _=>False
 | .m o xs=>ib o (xs.map (ev σ)) dst H K
 | c=>ak c σ H fun d=>K d H
end Go.Gv
namespace Go.Gv
def COp.isCall:COp->Bool
 | .call _ _| .callv _ _| .callb _ _ _=>true
 | _=>false
def COp.isRead:COp->Bool
 | .call _ _| .callv _ _| .callb _ _ _| .alloc _ _| .box _ false _| .tbx _ _| .nslice _ _| .mslice .. | .mkslice .. | .store .. | .append .. | .appmk .. | .clear .. | .copy .. | .srange .. | .snext .. =>false
 | .m o _=>o.isRead
 | _=>true
@[simp] theorem P9(b:Option Nat)(f:Nat)(args:List Operand):(Si b f args).isCall=true:=by cases b <;> rfl
@[simp] theorem P8(b:Option Nat)(f:Nat)(args:List Operand):(Si b f args).isRead=false:=by cases b <;> rfl
end Go.Gv
