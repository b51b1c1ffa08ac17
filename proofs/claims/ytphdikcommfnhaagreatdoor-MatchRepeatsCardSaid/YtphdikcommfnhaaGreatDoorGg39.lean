/- A part of the framework and of the walks: W192 W193 T23 T43 T41 T40. -/
import Derived.Shelf.SlMaps.Clone
import Derived.Test.YtphdikcommfnhaaGreatDoorGg38
import Derived.Test.YtphdikcommfnhaaGreatDoorGg36
import Derived.Test.YtphdikcommfnhaaGreatDoorGg28
import Derived.Test.YtphdikcommfnhaaGreatDoorGg27
import Derived.Test.YtphdikcommfnhaaGreatDoorGg37
set_option linter.unusedSimpArgs false
set_option linter.unusedVariables false
set_option linter.unusedSectionVars false
set_option maxRecDepth 100000

namespace Go.Gv
open Go.Proofs
open Cod (enc dec)
variable {S S0:Nat->Spc}
def Bq(a:Match):Prop:=(2+a.lbs.length) *8<=140737488355328
abbrev X2:Spc:=aS (a2 Match Match) (fun x=>Bq x.1/\Bq x.2) (enc (X:=Int)) fun x y=>y=wz x.1 x.2
theorem WB{x y:List Int}{k:Nat}{a b:Int}(hx:x[k]? =some a)(hy:y[k]? =some b)(h:eD x y=eD (x.drop k) (y.drop k)):eD x y=if a=b then eD (x.drop (k+1)) (y.drop (k+1))else if a < b then -1 else 1:=by
 obtain⟨hk,rfl⟩:=qtG.1 hx
 obtain⟨hk2,rfl⟩:=qtG.1 hy
 rw[h,quh hk,quh hk2,Gj]
 rcases fY x[k] y[k]with⟨q,e⟩|⟨q,e⟩|⟨q,e⟩
 ·rw[e,if_pos (by decide),if_neg (by omega),if_pos q]
 ·rw[e,if_neg (by decide),if_pos q]
 ·rw[e,if_pos (by decide),if_neg (by omega),if_neg (by omega)]
theorem qe2:aq sa ri S (a2 Match Match) (fun x=>Bq x.1/\Bq x.2) (enc (X:=Int)) fun x y=>y=wz x.1 x.2:=by
 rintro⟨a,b⟩ ⟨ha,hb⟩
 have ha:(2+a.lbs.length) *8<=140737488355328:=ha
 have hb:(2+b.lbs.length) *8<=140737488355328:=hb
 simp[sa,ri, -Bool.forall_bool, -Bool.exists_bool]
 have hbd:∀n:Nat,(2+n) *8<=140737488355328->2+n<=140737488355328:=fun n h=>by omega
 refine⟨ha,hbd _ ha,fun v=>⟨hb,hbd _ hb,fun v1=>?_⟩⟩
 have hlx:(a.b::a.e::a.lbs).length<=140737488355328:=by have:=hbd _ ha;simp;omega
 have hly:(b.b::b.e::b.lbs).length<=140737488355328:=by have:=hbd _ hb;simp;omega
 have hcm:wz a b=eD (a.b::a.e::a.lbs) (b.b::b.e::b.lbs):=rfl
 generalize hX:a.b::a.e::a.lbs=x at hlx hcm
 generalize hY:b.b::b.e::b.lbs=y at hly hcm
 refine ar (X:=Nat) [5,6] [] (fun k=>k<=x.length/\k<=y.length/\eD x y=eD (x.drop k) (y.drop k)) (fun k=>[(7, .v (.int .i64 k))]) (fun _=>[(12, .row v gE 1 (x.map enc)),(20, .row v1 gE 1 (y.map enc))]) (fun k=>x.length -k) 0 ⟨by omega,by omega,rfl⟩ (by simp) (by simp[<-hX,<-hY]) ?_
 rintro k ⟨g1,g2,g3⟩
 have hnil:∀z:List Int,eD [] z=if z.length=0 then 0 else -1:=fun z=>by cases z <;> simp[eD]
 have hnil2:∀z:List Int,eD z []=if z.length=0 then 0 else 1:=fun z=>by cases z <;> simp[eD]
 have hend:(x.length<=k\/y.length<=k)->(x.length < y.length-> -1=wz a b)/\(y.length < x.length->1=wz a b)/\(x.length=y.length->0=wz a b):=fun h=>by
  rw[hcm,g3]
  rcases h with h|h
  ·have e:x.drop k=[]:=quG h
   rw[e,hnil,quF]
   refine⟨fun h=>by rw[if_neg (by omega)],fun h=>by omega,fun h=>by rw[if_pos (by omega)]⟩
  ·have e:y.drop k=[]:=quG h
   rw[e,hnil2,quF]
   refine⟨fun h=>by omega,fun h=>by rw[if_neg (by omega)],fun h=>by rw[if_pos (by omega)]⟩
 simp[-Bool.forall_bool, -Bool.exists_bool]
 by_cases hk:k < x.length
 ·have hk':(k:Int) < x.length:=by omega
  by_cases hk2:k < y.length
  ·have hk2':(k:Int) < y.length:=by omega
   obtain⟨p,hp⟩:∃p,x[k]? =some p:=⟨_,qtH hk⟩
   obtain⟨q,hq⟩:∃q,y[k]? =some q:=⟨_,qtH hk2⟩
   obtain⟨_,hgp⟩:=qtG.1 hp
   obtain⟨_,hgq⟩:=qtG.1 hq
   have hst:=WB hp hq g3
   simp[hk,hk2,hk',hk2',hp,hq,hgp,hgq, -Bool.forall_bool, -Bool.exists_bool]
   refine fun _=>⟨fun _=>⟨⟨fun hne=>⟨fun hlt=>?_,fun hge=>?_⟩,fun he=>⟨by simp only[InR];omega,k+1,⟨by omega,by omega,by rw[hst,if_pos he]⟩,by omega,by omega⟩⟩,fun h=>by omega⟩,fun h=>by omega⟩
   ·rw[hcm,hst,if_neg hne,if_pos hlt]
   ·rw[hcm,hst,if_neg hne,if_neg (by omega)]
  ·have hk2':¬ (k:Int) < y.length:=by omega
   simp[hk,hk2,hk',hk2', -Bool.forall_bool, -Bool.exists_bool]
   have he:=hend (.inr (by omega))
   exact fun _=>⟨fun _ _ _ _=>⟨fun _ _ _=>⟨he.1,fun h=>he.2.1 (by omega)⟩,fun h=>he.2.2 (by omega)⟩,fun h=>by omega⟩
 ·have hk':¬ (k:Int) < x.length:=by omega
  simp[hk,hk', -Bool.forall_bool, -Bool.exists_bool]
  have he:=hend (.inl (by omega))
  exact fun _ _ _ _=>⟨fun _ _ _=>⟨he.1,fun h=>he.2.1 (by omega)⟩,fun h=>he.2.2 (by omega)⟩
abbrev L2:Spc:=aS (a2 (List Match) (List Match)) (fun x=>(∀m∈x.1,Bq m)/\∀m∈x.2,Bq m) (enc (X:=Bool)) fun x y=>(y=true↔x.1=x.2)
theorem qbB(h1:S tU=X2):aq tk sV S (a2 (List Match) (List Match)) (fun x=>(∀m∈x.1,Bq m)/\∀m∈x.2,Bq m) (enc (X:=Bool)) fun x y=>(y=true↔x.1=x.2):=by
 rintro⟨a,b⟩ ⟨ha,hb⟩
 have ha:∀m∈a,Bq m:=ha
 have hb:∀m∈b,Bq m:=hb
 by_cases hl:a.length=b.length
 ·simp[tk,sV,hl, -Bool.forall_bool, -Bool.exists_bool]
  intro hla
  refine ai (X:=Unit) [0,1] [] b.length (fun k _=>a.take k=b.take k) (fun _=>[]) (fun _=>[]) () (by simp) (by simp[hl]) (by omega) (by simp) (by simp) (by simp) (by simp) (by simp) ?_ ?_
  ·rintro k ⟨⟩ hk hP
   obtain⟨x,hx⟩:∃x,a[k]? =some x:=⟨_,qtH (by omega)⟩
   obtain⟨y,hy⟩:∃y,b[k]? =some y:=⟨_,qtH hk⟩
   obtain⟨_,hgx⟩:=qtG.1 hx
   obtain⟨_,hgy⟩:=qtG.1 hy
   have hfx:=ha x (qtJ hx)
   have hfy:=hb y (qtJ hy)
   simp[hk,hl,hx,hy,hgx,hgy,h1,hfx,hfy, -Bool.forall_bool, -Bool.exists_bool]
   refine⟨fun h e=>?_,fun h=>?_⟩
   ·subst e
    rw[hx]at hy
    cases hy
    exact h (Ew.2 rfl)
   ·rw[bM hx,bM hy,hP,Ew.1 h]
  ·rintro⟨⟩ hP
   simp[-Bool.forall_bool, -Bool.exists_bool]
   rw[<-hl,quj,hl,quj]at hP
   exact hP
 ·simp[tk,sV,hl, -Bool.forall_bool, -Bool.exists_bool]
  exact fun _ _=>⟨fun _ e=>hl (by rw[e]),fun h=>absurd h (by omega)⟩
end Go.Gv

namespace Go.Gv
open Go.Proofs
open Cod (enc dec)
variable {S S0:Nat->Spc}
def abT:B:=⟨#[97,98,97,98]⟩
def plC:Corpus:=⟨[⟨⟨#[119,111,114,100]⟩,false⟩], [[⟨#[97]⟩], [⟨#[98]⟩], [⟨#[97]⟩], [⟨#[98]⟩]], [⟨⟨#[116]⟩,0,4, []⟩], [], [], [], []⟩
abbrev ST:Spc:=aS (a1 B) (fun s=>s=abT) (enc (X:=Corpus)) fun _ y=>y=plC
def qo3:D:= .list 4 [.agg [.v (.string ⟨#[116]⟩), .v (.int .i64 0), .v (.int .i64 4), .v (.slice none 0 0)]]
theorem Qp:abT.size=4:=rfl
theorem qdP:ux abT=true:=rfl
theorem Jo:aq sx rC S (a1 B) (fun s=>s=abT) (enc (X:=Corpus)) fun _ y=>y=plC:=by
 rintro s rfl
 simp[sx,rC, -Bool.forall_bool, -Bool.exists_bool]
 intro b2 _ b3 b13
 refine qO (X:=Nat×Value) [0,2,3,13] [2] [] [] [] [] (fun x=>x.1<=4) (fun _=>[]) (fun x=>[(3, .box b3 [enc plC.attrs, .own 26 x.2,qo3, .v (.slice none 0 0), .v (.slice none 0 0), .v (.slice none 0 0), .v (.slice none 0 0)]),(13, .iter b13 abT x.1),(26, .row x.2 lA 1 ((plC.toks.take x.1).map enc))]) (fun x=>4 -x.1) (0, .slice none 0 0) [3,13,26] (fun _=>rfl) (by decide) (by decide) (by simp) (by simp) ?_ ?_
 ·simp[isNilRow,plC,qo3,Qp]
  exact⟨.nilown 26, .inl rfl⟩
 rintro⟨p,v⟩ hp
 simp only at hp
 have hsz:=Qp
 by_cases h4:p=4
 ·subst h4
  simp[hsz]
  refine cB plC ?_ rfl
  have h:∀d,dec (X:=List sH) d=some plC.texts->∀H,FrzTo H d (enc plC.texts):=fun d hd H=>qdb (Cod.le (X:=List sH) d plC.texts hd)
  rw[show enc plC= .agg [enc plC.attrs,enc plC.toks,enc plC.texts,enc plC.regs,enc plC.nodes,enc plC.heads,enc plC.rels]from rfl]
  simp only[cJ]
  exact⟨.same _,gP lA (by simp;rfl),h _ (by simp[qo3,plC]) _, .nil _, .nil _, .nil _, .nil _, .same _⟩
 ·have hlt:p < 4:=by omega
  obtain⟨c,hc,hc1,hc2⟩:=EM qdP (p:=p) (by rw[hsz];omega)
  have hm:min p plC.toks.length=p:=by rw[show plC.toks.length=4 from rfl];omega
  have hex:(plC.toks.take p) ++ [[abT.extract p (p+1)]]=plC.toks.take (p+1):=by
   rcases p with _|_|_|_|p
   ·rfl
   ·rfl
   ·rfl
   ·rfl
   ·omega
  simp[hsz,hlt,hc2,hm]
  have hx2:List.take p (List.map enc plC.toks) ++ [D.list 1 [.v (.string (abT.extract p (p+1)))]]=List.take (p+1) (List.map enc plC.toks):=by
   rw[<-List.map_take,<-List.map_take,<-hex,qu9]
   rfl
  refine⟨by simp only[InR];omega,by omega,by omega,by omega,by omega,fun w=>⟨p+1,by omega,⟨w, .inl (.inl rfl), .inl (.inl rfl), .inl ?_⟩,by omega⟩⟩
  rw[hx2]
  exact .inl rfl
end Go.Gv

namespace Go.Gv
open Cod (enc dec)
section
variable {Y Z:Type}
def qfQ:I1 Pst:=F5 kj
def qo2(A:cM Z)(er:Y->D)(pre:Pst->Z->Prop)(post:Pst->Z->Pst->Y->Prop):Spc:=qkG qfQ A er pre post
def qr0(er:Y->D)(pre:Pst->Z->Prop)(post:Pst->Z->Pst->Y->Prop)(id b:Nat)(r:Option Res)(o:Option Z)(H:ab)(K:D->ab->Prop):Prop:=
 ∃x,r=some (.box b (kj x))/\dx o fun z=>pre x z/\∀x' y,post x z x' y->K (er y) (ah H id (some (.box b (kj x'))))
theorem WE{x y:Pst}(h:kj x=kj y):x=y:=by
 obtain⟨l,a,d,e,f⟩:=x
 obtain⟨l',a',d',e',f'⟩:=y
 simp only[kj,qt5]at h
 obtain⟨h1,h2,h3,h4,h5,_⟩:=h
 have h1:=aL h1
 have h2:=aL h2
 have h3:=aL h3
 have h4:=aL h4
 have h5:=aL h5
 subst h1;subst h2;subst h3;subst h4;subst h5
 rfl
@[simp] theorem qfP(A:cM Z)(er:Y->D)(pre:Pst->Z->Prop)(post:Pst->Z->Pst->Y->Prop)(d i b:Nat)(ds:List D)(H:ab)(K:D->ab->Prop):(qo2 A er pre post).pt d (.bptr i b 0::ds) H K=qr0 er pre post i b (H i) (A.dec ds) H K:=by
 refine propext ⟨fun h=>?_,fun h=>?_⟩
 ·obtain⟨id,b',x,z,ds',h1,h2,h3,h4,h5,h6,h7⟩:=h
  cases h1
  refine⟨x,h3,?_⟩
  rw[h2]
  exact⟨h6,h7⟩
 ·obtain⟨x,h1,h2⟩:=h
  cases hz:A.dec ds with
  | none=>rw[hz]at h2;exact h2.elim
  | some z=>rw[hz]at h2;exact⟨i,b,x,z,ds,rfl,hz,h1,fun p hp=>by simp[qfQ,F5]at hp,by simp[qfQ,F5],h2.1,h2.2⟩
def IY(er:Y->D)(b:Nat)(post:Pst->Y->Prop)(r:D)(H:ab):Prop:=Lp qfQ er b post r H
theorem Dc{er:Y->D}{b:Nat}{post:Pst->Y->Prop}{r:D}{H:ab}(x:Pst)(y:Y)(hr:FrzTo (fun i=>if i=0 then none else H i) r (er y))(h0:H 0=some (.box b (kj x)))(hq:post x y):IY er b post r H:=
 ⟨x,y,by simpa [qfQ,F5]using hr,h0,fun p hp=>by simp[qfQ,F5]at hp,hq⟩
def nr(cc:CC)(rs:List aj)(S:Nat->Spc)(A:cM Z)(er:Y->D)(pre:Pst->Z->Prop)(post:Pst->Z->Pst->Y->Prop):Prop:=
 ∀b x z,pre x z->vc S cc (rG rs fun r H'=>IY er b (post x z) r H') (cR (.bptr 0 b 0::A.view z)) (ah bB 0 (some (.box b (kj x))))
variable {P:Program}{S:Nat->Spc}{f:Nat}{im:List Nat}{cc:CC}{rs:List aj}{N:Nat}
theorem QX{A:cM Z}{er:Y->D}{pre:Pst->Z->Prop}{post:Pst->Z->Pst->Y->Prop}(hS:∀f,Tri P f (S f).pt)(h:am P f im cc rs N)(hN:∀z,(A.view z).length+1<=N)(hw:nr cc rs S A er pre post):Tri P f (qo2 A er pre post).pt:=
 vt (by simp[qfQ,F5]) hS h hN fun b x z hp=>hw b x z hp
end
section
variable {Y Z:Type}
def Rw(A:cM Z)(er:Y->D)(F:Pst->Z->Option (Pst×Y)):Spc:=qo2 A er (fun s z=>∃r,F s z=some r) (fun s z s' y=>F s z=some (s',y))
def YC(er:Y->D)(F:Pst->Z->Option (Pst×Y))(id b:Nat)(r:Option Res)(o:Option Z)(H:ab)(K:D->ab->Prop):Prop:=
 ∃x,r=some (.box b (kj x))/\dx o fun z=>dx (F x z) fun q=>K (er q.2) (ah H id (some (.box b (kj q.1))))
@[congr] theorem qlW{er:Y->D}{F:Pst->Z->Option (Pst×Y)}{id b:Nat}{r r':Option Res}{o o':Option Z}{H:ab}{K:D->ab->Prop}(h1:r=r')(h2:o=o'):YC er F id b r o H K=YC er F id b r' o' H K:=by subst h1;subst h2;rfl
theorem qjf{F:Option (Pst×Y)}{k:Pst->Y->Prop} :((∃r,F=some r)/\∀x' y,F=some (x',y)->k x' y)=dx F fun q=>k q.1 q.2:=by
 cases F with
 | none=>
   refine propext (Iff.intro (fun h=>?_) (fun h=>?_))
   ·obtain⟨⟨r,h⟩,_⟩:=h
    cases h
   ·exact False.elim h
 | some r=>
   refine propext (Iff.intro (fun h=>h.2 _ _ rfl) (fun h=>⟨⟨_,rfl⟩,fun x' y e=>?_⟩))
   cases e
   exact h
@[simp] theorem qo0(A:cM Z)(er:Y->D)(F:Pst->Z->Option (Pst×Y))(d i b:Nat)(ds:List D)(H:ab)(K:D->ab->Prop):(Rw A er F).pt d (.bptr i b 0::ds) H K=YC er F i b (H i) (A.dec ds) H K:=by
 unfold Rw YC
 rw[qfP]
 unfold qr0
 refine propext (exists_congr fun x=>and_congr_right fun _=>?_)
 cases A.dec ds with
 | none=>exact quJ
 | some z=>exact iff_of_eq qjf
@[simp] theorem qo1(er:Y->D)(F:Pst->Z->Option (Pst×Y))(id b:Nat)(l:List Fl)(p dp e f:Int)(o:Option Z)(H:ab)(K:D->ab->Prop):
 YC er F id b (some (.box b [.list 3 (l.map enc), .v (.int .i64 p), .v (.int .i64 dp), .v (.int .i64 e), .v (.int .i64 f)])) o H K=dx o fun z=>dx (F ⟨l,p,dp,e,f⟩ z) fun q=>K (er q.2) (ah H id (some (.box b (kj q.1)))):=by
 refine propext ⟨fun⟨x,h1,h2⟩=>?_,fun h=>⟨⟨l,p,dp,e,f⟩,rfl,h⟩⟩
 have e1:kj ⟨l,p,dp,e,f⟩=kj x:=by
  have:=qtV h1
  exact(Res.box.inj this).2
 have:=WE e1
 subst this
 exact h2
variable {P:Program}{S:Nat->Spc}{f:Nat}{im:List Nat}{cc:CC}{rs:List aj}{N:Nat}
theorem cI{A:cM Z}{er:Y->D}{F:Pst->Z->Option (Pst×Y)}(hS:∀f,Tri P f (S f).pt)(h:am P f im cc rs N)(hN:∀z,(A.view z).length+1<=N)
 (hw:nr cc rs S A er (fun s z=>∃r,F s z=some r) (fun s z s' y=>F s z=some (s',y))):Tri P f (Rw A er F).pt:=QX hS h hN hw
end
end Go.Gv

namespace Go.Gv
open Cod (enc dec)
open Go.Proofs Go.Shelf Go.RowKit
section
variable {X:Type}
def qph(A:cM X)(pre:X->List D->Prop)(post:X->List D->List D->Prop):PT:=fun d ds H K=>∃id v l ds' x,ds= .own id v::ds'/\A.dec ds'=some x/\H id=some (.mrow v l)/\pre x l/\∀l',post x l l'->K (.tup []) (ah H id (some (.mrow v l')))
theorem qcD(A:cM X)(pre:X->List D->Prop)(post:X->List D->List D->Prop):oL (qph A pre post):=fun d ds H K K' hk ⟨id,v,l,ds',x,h1,h2,h3,h4,h5⟩=>⟨id,v,l,ds',x,h1,h2,h3,h4,fun l' hp=>hk _ _ (h5 l' hp)⟩
def qpj(A:cM X)(pre:X->List D->Prop)(post:X->List D->List D->Prop):Spc:= .gen _ (qcD A pre post)
def qjo(A:cM X)(pre:X->List D->Prop)(post:X->List D->List D->Prop)(id:Nat)(v:Value)(ds:List D)(r:Option Res)(H:ab)(K:D->ab->Prop):Prop:=match r with
 | some (.mrow v' l)=>v'=v/\dx (A.dec ds) fun x=>pre x l/\∀l',post x l l'->K (.tup []) (ah H id (some (.mrow v l')))
 | _=>False
@[congr] theorem qpg{A:cM X}{pre:X->List D->Prop}{post:X->List D->List D->Prop}{id:Nat}{v:Value}{ds ds':List D}{r r':Option Res}{H:ab}{K:D->ab->Prop}(h1:ds=ds')(h2:r=r'):qjo A pre post id v ds r H K=qjo A pre post id v ds' r' H K:=by subst h1;subst h2;rfl
@[simp] theorem qjn(A:cM X)(pre:X->List D->Prop)(post:X->List D->List D->Prop)(id:Nat)(v v':Value)(ds l:List D)(H:ab)(K:D->ab->Prop):qjo A pre post id v ds (some (.mrow v' l)) H K=(v'=v/\dx (A.dec ds) fun x=>pre x l/\∀l',post x l l'->K (.tup []) (ah H id (some (.mrow v l')))):=_root_.id rfl
@[simp] theorem qpi(A:cM X)(pre:X->List D->Prop)(post:X->List D->List D->Prop)(d i:Nat)(v:Value)(ds:List D)(H:ab)(K:D->ab->Prop):(qpj A pre post).pt d (.own i v::ds) H K=qjo A pre post i v ds (H i) H K:=by
 refine propext ⟨fun h=>?_,fun h=>?_⟩
 ·obtain⟨id,v,l,ds',x,h1,h2,h3,h4,h5⟩:=h
  cases h1
  rw[h3,qjn,h2]
  exact⟨rfl,h4,h5⟩
 ·unfold qjo at h
  split at h
  ·rename_i v' l hr
   obtain⟨rfl,h⟩:=h
   cases hd:A.dec ds with
   | none=>rw[hd]at h;exact h.elim
   | some x=>rw[hd]at h;exact⟨i,v',l,ds,x,rfl,hd,hr,h.1,h.2⟩
  ·exact h.elim
def qk5(v:Value)(q:List D->Prop)(r:D)(H':ab):Prop:=∃l,r= .tup []/\H' 0=some (.mrow v l)/\q l
def qaU(cc:CC)(rs:List aj)(S:Nat->Spc)(A:cM X)(pre:X->List D->Prop)(post:X->List D->List D->Prop):Prop:=
 ∀v l x,pre x l->vc S cc (rG rs fun r H'=>qk5 v (post x l) r H') (cR (.own 0 v::A.view x)) (ah bB 0 (some (.mrow v l)))
variable {P:Program}{S:Nat->Spc}{f:Nat}{im:List Nat}{cc:CC}{rs:List aj}{N:Nat}{A:cM X}
theorem QY{pre:X->List D->Prop}{post:X->List D->List D->Prop}(hS:∀f,Tri P f (S f).pt)(h:am P f im cc rs N)(hN:∀x,(A.view x).length+1<=N)(hw:qaU cc rs S A pre post):Tri P f (qpj A pre post).pt:=by
 obtain⟨tS,enter,fn,code,h1,h2,h3,h4,h5⟩:=h
 refine lB hS tS h1 h2 enter h3 h4 h5 ?_
 rintro ds H d K ⟨id,v,l,ds',x,rfl,hd,hid,hp,hK⟩
 have hl:=A.le ds' x hd
 refine⟨by simp only[quy];rw[hl.1];exact hN x, .own 0 v::A.view x,ah bB 0 (some (.mrow v l)),fun _=>id, .cons (.own _ _ _) hl,fun i r h=>?_,fun i j r s h h' _=>?_,_,hw v l x hp,?_⟩
 ·by_cases e:i=0
  ·subst e
   simp only[ah,if_true]at h
   cases h
   exact hid
  ·simp[ah,e]at h
 ·have a:i=0:=by
   by_cases e:i=0
   ·exact e
   ·simp[ah,e]at h
  have b:j=0:=by
   by_cases e:j=0
   ·exact e
   ·simp[ah,e]at h'
  exact a.trans b.symm
 ·rintro r H' ⟨l',rfl,hj,hpost⟩
  refine⟨.tup [],bB,ah H id (some (.mrow v l')),fun i=>if i=id then some 0 else none, .same _,fun j q h=>by simp at h,hK l' hpost,fun i s hi=>?_,fun i j' k s q hi hj' e1 e2=>?_⟩
  ·by_cases e:i=id
   ·subst e
    simp only[ah,if_true]at hi
    cases hi
    simpa using hj
   ·simp only[ah,e,if_false]at hi ⊢
    exact⟨hi,fun k q h he=>e he.symm⟩
  ·have a:i=id:=by
    by_cases e:i=id
    ·exact e
    ·simp[e]at e1
   have b:j'=id:=by
    by_cases e:j'=id
    ·exact e
    ·simp[e]at e2
   exact a.trans b.symm
end
def qqD:PT:=fun d ds H K=>∃es,ds=[.mp es]/\(es=[]->K (.mp []) H)/\(es≠ []->∀v,K (.own d v) (ah H d (some (.mrow v es))))
theorem qdy:oL qqD:=fun d ds H K K' hk ⟨es,h1,h2,h3⟩=>⟨es,h1,fun h=>hk _ _ (h2 h),fun h v=>hk _ _ (h3 h v)⟩
def clC:Spc:= .gen _ qdy
@[simp] theorem qqE(d:Nat)(es:List D)(H:ab)(K:D->ab->Prop):clC.pt d [.mp es] H K=((es=[]->K (.mp []) H)/\(es≠ []->∀v,K (.own d v) (ah H d (some (.mrow v es))))):=
 propext ⟨fun⟨es',h1,h2,h3⟩=>by cases h1;exact⟨h2,h3⟩,fun⟨h2,h3⟩=>⟨es,rfl,h2,h3⟩⟩
theorem U1{P:Program}{ρ:Ren}{fc:Nat}(L:SlLaysW.n5 P ρ)(hf:ρ.f 5=fc)(ef:ee P fc):Tri P fc clC.pt:=by
 subst hf
 intro O tp w vs ds H d K hO htl hsat hlen hargs hA
 obtain⟨es,rfl,h0,h1⟩:=hA
 match vs,hlen,hargs with
 | [v0],_,hargs=>
 refine⟨ef,?_⟩
 have hv:=hargs 0 v0 _ rfl rfl
 have hW:StW ⟨O,tp,w,bA H,0, []⟩ tp H w:=⟨hO,fun _ h=>h,fun _ h=> .inl h,⟨htl.1,htl.2⟩, .refl _ _ _,fun _ h=> .inl h,hsat⟩
 have fin:∀ {H':ab} {w':World} {x:Value} {r:D},StW ⟨O,tp,w,bA H,0, []⟩ tp H' w'->K r H'->R tp (aM O tp H' w') w' x r->QA O tp H w K (.returned x) w':=fun {H' w' x r} h hk hr=>
  ⟨x,r,H',tp,rfl,hk,fun _ h=>h,fun _ h=> .inl h,h.tpl.1,h.step,h.loc,h.sat,hr⟩
 cases hv with
 | nomp=>
   refine(AnyW.maps_Clone_nil L w).mono ?_
   rintro e w' ⟨rfl,rfl⟩
   exact fin hW (h0 rfl) .nomp
 | mp b ents clock _ hI hh hl hb h=>
   refine(AnyW.maps_Clone L b ents clock w hh).mono ?_
   rintro e w' ⟨rfl,rfl⟩
   have hnew:(w.alloc (.map ents clock)).heap[w.heap.size]? =some (.map ents clock):=(MapKept.heap_alloc w _).1
   by_cases he:es=[]
   ·subst he
    obtain⟨hW',move⟩:=hW.grow (GrB.alloc w (.map ents clock) none)
    refine fin hW' (h0 rfl) (.mp _ ents clock [] ⟨?_,fun h=>?_,fun h=>?_,fun h=>?_⟩ hnew hl hb fun k e c _ hc=>by simp at hc)
    ·exact(qtO.1 hnew).1
    ·exact absurd (hO _ h) (qv5 _)
    ·exact absurd (htl.1 _ h) (qv5 _)
    ·obtain⟨i,r,h1,h2⟩:=h
     exact absurd ((hsat.ok i r h1).lt h2) (qv5 _)
   ·obtain⟨hW',move⟩:=hW.own d (some (.mrow (.map (some w.heap.size)) es)) (GrB.alloc w (.map ents clock) none) (fun b h=>by cases h)
     (fun r b h1 h2=>by cases h1;cases h2;exact .inl (qtP _))
     (fun mv r hr=>by
       cases hr
       exact⟨_,ents,clock,rfl,hnew,hb,hl,fun k e c he hc=>mv _ _ (h k e c he hc)⟩)
    exact fin hW' (h1 he _) (.own _ _ rfl)
end Go.Gv

namespace Go.Gv
open Cod (enc dec)
def CR(tp I:Nat->Prop)(w:World)(f:Nat->Value)(cs:List D):Prop:=∀ (k:Nat) (c:D),cs[k]? =some c->R tp I w (f k) c
def qbk{X:Type}[Cod X](x:X):Prop:=∀ (tp I:Nat->Prop) (w:World) (f:Nat->Value) (y:X),CR tp I w f (enc x).cells->CR tp I w f (enc y).cells->x=y
theorem Gh{tp I:Nat->Prop}{w:World}{v:Value}{a b:Int}(h1:R tp I w v (enc a))(h2:R tp I w v (enc b)):a=b:=by
 have e1:v= .int .i64 a:=R.inv_v h1
 have e2:v= .int .i64 b:=R.inv_v h2
 rw[e1]at e2
 cases e2;rfl
theorem Z8{tp I:Nat->Prop}{w:World}{v:Value}{a b:Bool}(h1:R tp I w v (enc a))(h2:R tp I w v (enc b)):a=b:=by
 have e1:v= .bool a:=R.inv_v h1
 have e2:v= .bool b:=R.inv_v h2
 rw[e1]at e2
 cases e2;rfl
theorem zP{tp I:Nat->Prop}{w:World}{v:Value}{a b:B}(h1:R tp I w v (enc a))(h2:R tp I w v (enc b)):a=b:=by
 have e1:v= .string a:=R.inv_v h1
 have e2:v= .string b:=R.inv_v h2
 rw[e1]at e2
 cases e2;rfl
theorem R.inv_list{tp I:Nat->Prop}{w:World}{v:Value}{n:Nat}{es:List D}(h:R tp I w v (.list n es)):(es=[]/\∃a cap,v= .slice a 0 cap)\/
 (∃ (b off cap:Nat) (f:Nat->Value),v= .slice (some ⟨b,off,none⟩) es.length cap/\(∀d∈es,d.cells.length=n)/\(∀ (k:Nat) (c:D),(aU es)[k]? =some c->w.cell? ⟨b,off+k,none⟩=some (f k))/\∀ (k:Nat) (c:D),(aU es)[k]? =some c->R tp I w (f k) c):=by
 generalize hd:D.list n es=d at h
 cases h <;> first|cases hd;done|skip
 ·cases hd
  exact .inl ⟨rfl,_,_,rfl⟩
 ·rename_i b off cap n' es' f hI hc hm hz hn hcell h1 h
  cases hd
  exact .inr ⟨b,off,cap,f,rfl,fun d hd=>(hn d hd).2,hcell,h⟩
theorem PI{X:Type}[Cod X]{tp I:Nat->Prop}{w:World}{v:Value}{l l':List X}(hw:0 < Cod.wd X)(hl:∀x∈l,qbk x)(h1:R tp I w v (enc l))(h2:R tp I w v (enc l')):l=l':=by
 have h1:R tp I w v (.list (Cod.wd X) (l.map enc)):=h1
 have h2:R tp I w v (.list (Cod.wd X) (l'.map enc)):=h2
 have nil:∀ {k:List X},k.map (enc (X:=X))=[]->k=[]:=fun {k} h=>by cases k with|nil=>rfl|cons a k=>simp at h
 rcases h1.inv_list with⟨e1,a,cap,rfl⟩|⟨b,off,cap,f,rfl,hn,hcell,hR⟩
 ·rcases h2.inv_list with⟨e2,_⟩|⟨b',off',cap',f',e,_⟩
  ·rw[nil e1,nil e2]
  ·injection e with _ e _
   rw[nil e1]
   have:l'.length=0:=by simpa using e.symm
   exact(qur.1 this).symm
 ·rcases h2.inv_list with⟨e2,a,cap',e⟩|⟨b',off',cap',f',e,hn',hcell',hR'⟩
  ·injection e with _ e _
   rw[nil e2]
   have:l.length=0:=by simpa using e
   exact qur.1 this
  ·injection e with e3 e4 _
   injection e3 with e3
   injection e3 with e5 e6 _
   subst e5;subst e6
   have hlen:l.length=l'.length:=by simpa using e4
   refine qvJ hlen fun i hi hi'=>?_
   refine hl l[i] (qu2 _) tp I w (fun j=>f (i*Cod.wd X+j)) l'[i] (fun j c hj=>?_) (fun j c hj=>?_)
   ·have hjw:j < Cod.wd X:=by rw[<-Cod.wid l[i]];exact(qtG.1 hj).1
    refine hR _ c ?_
    rw[cS hn hjw,qtX,qtH hi]
    exact hj
   ·have hjw:j < Cod.wd X:=by rw[<-Cod.wid l'[i]];exact(qtG.1 hj).1
    have g2:(aU (l'.map (enc (X:=X))))[i*Cod.wd X+j]? =some c:=by
     rw[cS hn' hjw,qtX,qtH hi']
     exact hj
    have hj1:j < (enc l[i]).cells.length:=by rw[Cod.wid];exact hjw
    have g1:(aU (l.map (enc (X:=X))))[i*Cod.wd X+j]? =some (enc l[i]).cells[j]:=by
     rw[cS hn hjw,qtX,qtH hi]
     exact qtH hj1
    have c1:=hcell _ _ g1
    have c2:=hcell' _ _ g2
    rw[c1]at c2
    have c3:=qtV c2
    show R tp I w (f (i*Cod.wd X+j)) c
    rw[c3]
    exact hR' _ c g2
mutual
theorem PJ:∀c:Cond,qbk c
 | .mk op n a v l fo ks=>by
   have ih:=K8 ks
   rintro tp I w f ⟨op',n',a',v',l',fo',ks'⟩ h1 h2
   rw[Ir]at h1 h2
   have e0:=Gh (h1 0 _ rfl) (h2 0 _ rfl)
   have e1:=zP (h1 1 _ rfl) (h2 1 _ rfl)
   have e2:=zP (h1 2 _ rfl) (h2 2 _ rfl)
   have e3:=zP (h1 3 _ rfl) (h2 3 _ rfl)
   have e4:=zP (h1 4 _ rfl) (h2 4 _ rfl)
   have e5:=Z8 (h1 5 _ rfl) (h2 5 _ rfl)
   have e6:=PI (l:=ks) (l':=ks') (by decide) ih (h1 6 _ rfl) (h2 6 _ rfl)
   rw[e0,e1,e2,e3,e4,e5,e6]
theorem K8:∀ks:List Cond,∀c∈ks,qbk c
 | [],c,h=>by cases h
 | k::ks,c,h=>by
   have i1:=PJ k
   have i2:=K8 ks
   rcases qtM.1 h with rfl|h
   ·exact i1
   ·exact i2 c h
end
theorem ZW(op:Int)(c:Cond)(l r:B)(mn mx:Int)(ks:List Pat):(enc (Pat.mk op c l r mn mx ks)).cells=enc op::((enc c).cells++ [enc l,enc r,enc mn,enc mx,enc ks]):=by
 obtain⟨cop,n,a,v,cl,fo,cks⟩:=c
 simp
theorem Ua{tp I:Nat->Prop}{w:World}{f:Nat->Value}{a b c:List D}(h:CR tp I w f (a++ (b++c))):CR tp I w (fun k=>f (a.length+k)) b:=fun k d hk=>by
 refine h (a.length+k) d ?_
 rw[qtQ (by omega),qvE,qt0 (qtG.1 hk).1]
 exact hk
mutual
theorem TT:∀p:Pat,qbk p
 | .mk op c l r mn mx ks=>by
   have ih:=PH ks
   rintro tp I w f ⟨op',c',l',r',mn',mx',ks'⟩ h1 h2
   rw[ZW]at h1 h2
   have hc:c=c':=by
    refine PJ c tp I w (fun k=>f (1+k)) c' ?_ ?_
    ·exact Ua (a:=[enc op]) h1
    ·exact Ua (a:=[enc op']) h2
   subst hc
   have wc:(enc c).cells.length=7:=Cod.wid c
   have at1:∀ (j:Nat) (d:D), [enc l,enc r,enc mn,enc mx,enc ks][j]? =some d->R tp I w (f (8+j)) d:=fun j d hj=>by
    refine h1 (8+j) d ?_
    rw[show 8+j=(7+j) +1 by omega,quL,qtQ (by omega),wc,qvE]
    exact hj
   have qeG:∀ (j:Nat) (d:D), [enc l',enc r',enc mn',enc mx',enc ks'][j]? =some d->R tp I w (f (8+j)) d:=fun j d hj=>by
    refine h2 (8+j) d ?_
    rw[show 8+j=(7+j) +1 by omega,quL,qtQ (by omega),wc,qvE]
    exact hj
   have e0:=Gh (h1 0 _ rfl) (h2 0 _ rfl)
   have e1:=zP (at1 0 _ rfl) (qeG 0 _ rfl)
   have e2:=zP (at1 1 _ rfl) (qeG 1 _ rfl)
   have e3:=Gh (at1 2 _ rfl) (qeG 2 _ rfl)
   have e4:=Gh (at1 3 _ rfl) (qeG 3 _ rfl)
   have e5:=PI (l:=ks) (l':=ks') (by decide) ih (at1 4 _ rfl) (qeG 4 _ rfl)
   rw[e0,e1,e2,e3,e4,e5]
theorem PH:∀ks:List Pat,∀c∈ks,qbk c
 | [],c,h=>by cases h
 | k::ks,c,h=>by
   have i1:=TT k
   have i2:=PH ks
   rcases qtM.1 h with rfl|h
   ·exact i1
   ·exact i2 c h
end
def qN(d:D)(p:Pat):Prop:=∃cs off,d= .cptr cs off/\off+13<=cs.length/\(cs.drop off).take 13=(enc p).cells
theorem vN{cs:List D}{off:Nat}{p:Pat}(h1:off+13<=cs.length)(h2:(cs.drop off).take 13=(enc p).cells){j:Nat}(hj:j < 13):cs[off+j]? =(enc p).cells[j]?:=by
 rw[<-h2,qtZ,if_pos hj,quk]
theorem R.inv_cptr{tp I:Nat->Prop}{w:World}{v:Value}{cs:List D}{off:Nat}(h:R tp I w v (.cptr cs off)):∃ (b base:Nat) (f:Nat->Value),v= .pointer (some ⟨b,base+off,none⟩)/\
 (∀ (k:Nat) (c:D),cs[k]? =some c->w.cell? ⟨b,base+k,none⟩=some (f k))/\∀ (k:Nat) (c:D),cs[k]? =some c->R tp I w (f k) c:=by
 generalize hd:D.cptr cs off=d at h
 cases h <;> first|cases hd;done|skip
 rename_i b base cs' off' f hI hz hcell h1 h
 cases hd
 exact⟨b,base,f,rfl,hcell,h⟩
theorem Vh{d d':D}{p p':Pat}(h1:qN d p)(h2:qN d' p'){tp I:Nat->Prop}{w:World}{v:Value}(r1:R tp I w v d)(r2:R tp I w v d'):p=p':=by
 obtain⟨cs,off,rfl,hl,hc⟩:=h1
 obtain⟨cs',off',rfl,hl',hc'⟩:=h2
 obtain⟨b,base,f,rfl,g1,g2⟩:=r1.inv_cptr
 obtain⟨b',base',f',e,g1',g2'⟩:=r2.inv_cptr
 injection e with e
 injection e with e
 injection e with e1 e2 _
 subst e1
 have wp:(enc p).cells.length=13:=Cod.wid p
 have wp':(enc p').cells.length=13:=Cod.wid p'
 refine TT p tp I w (fun k=>f (off+k)) p' (fun k c hk=>?_) (fun k c hk=>?_)
 ·have hk13:k < 13:=by rw[<-wp];exact(qtG.1 hk).1
  exact g2 _ c (by rw[vN hl hc hk13];exact hk)
 ·have hk13:k < 13:=by rw[<-wp'];exact(qtG.1 hk).1
  have q2:cs'[off'+k]? =some c:=by rw[vN hl' hc' hk13];exact hk
  have hk1:off+k < cs.length:=by omega
  have q1:cs[off+k]? =some cs[off+k]:=qtH hk1
  have c1:=g1 _ _ q1
  have c2:=g1' _ _ q2
  rw[<-qu0]at c1 c2
  rw[e2,c2]at c1
  have c3:=qtV c1
  show R tp I w (f (off+k)) c
  rw[<-c3]
  exact g2' _ c q2
end Go.Gv

namespace Go.Gv
open Cod (enc dec)
section
variable {X Z:Type}
def qq7(A:cM X)(pre:D×X->Prop)(er:Z->D)(post:D×X->Z->Prop):PT:=fun d ds H K=>∃id b cells ds' x,ds= .bptr id b 0::ds'/\A.dec ds'=some x/\H id=some (.box b cells)/\pre (.cptr cells 0,x)/\∀z,post (.cptr cells 0,x) z->K (er z) H
theorem qdJ(A:cM X)(pre:D×X->Prop)(er:Z->D)(post:D×X->Z->Prop):oL (qq7 A pre er post):=fun d ds H K K' hk ⟨id,b,cells,ds',x,h1,h2,h3,h4,h5⟩=>⟨id,b,cells,ds',x,h1,h2,h3,h4,fun z hz=>hk _ _ (h5 z hz)⟩
def qeF(A:cM X)(pre:D×X->Prop)(er:Z->D)(post:D×X->Z->Prop):Spc:= .gen _ (qdJ A pre er post)
def qeE(A:cM X)(pre:D×X->Prop)(er:Z->D)(post:D×X->Z->Prop)(b:Nat)(ds:List D)(r:Option Res)(H:ab)(K:D->ab->Prop):Prop:=match r with
 | some (.box b' cells)=>b'=b/\dx (A.dec ds) fun x=>pre (.cptr cells 0,x)/\∀z,post (.cptr cells 0,x) z->K (er z) H
 | _=>False
@[congr] theorem qq6{A:cM X}{pre:D×X->Prop}{er:Z->D}{post:D×X->Z->Prop}{b:Nat}{ds ds':List D}{r r':Option Res}{H:ab}{K:D->ab->Prop}(h1:ds=ds')(h2:r=r'):qeE A pre er post b ds r H K=qeE A pre er post b ds' r' H K:=by subst h1;subst h2;rfl
@[simp] theorem qaB(A:cM X)(pre:D×X->Prop)(er:Z->D)(post:D×X->Z->Prop)(b b':Nat)(ds:List D)(cells:List D)(H:ab)(K:D->ab->Prop):qeE A pre er post b ds (some (.box b' cells)) H K=(b'=b/\dx (A.dec ds) fun x=>pre (.cptr cells 0,x)/\∀z,post (.cptr cells 0,x) z->K (er z) H):=id rfl
@[simp] theorem qaC(A:cM X)(pre:D×X->Prop)(er:Z->D)(post:D×X->Z->Prop)(d i b:Nat)(ds:List D)(H:ab)(K:D->ab->Prop):(qeF A pre er post).pt d (.bptr i b 0::ds) H K=qeE A pre er post b ds (H i) H K:=by
 refine propext ⟨fun h=>?_,fun h=>?_⟩
 ·obtain⟨id,b',cells,ds',x,h1,h2,h3,h4,h5⟩:=h
  cases h1
  rw[h3,qaB,h2]
  exact⟨rfl,h4,h5⟩
 ·unfold qeE at h
  split at h
  ·rename_i b' cells hr
   obtain⟨rfl,h⟩:=h
   cases hd:A.dec ds with
   | none=>rw[hd]at h;exact h.elim
   | some x=>rw[hd]at h;exact⟨i,b',cells,ds,x,rfl,hd,hr,h.1,h.2⟩
  ·exact h.elim
theorem EV{P:Program}{f:Nat}{A:cM X}{pre:D×X->Prop}{er:Z->D}{post:D×X->Z->Prop}(hf:Tri P f (aS (aD A) pre er post).pt)(hflat:∀z,QE (er z)):Tri P f (qeF A pre er post).pt:=by
 intro O tp w vs ds H d K hO htl hsat hlen hargs hA
 obtain⟨id,bk,cells,ds',x,rfl,hd,hid,hp,hK⟩:=hA
 cases vs with
 | nil=>simp at hlen
 | cons v0 vs=>
   have hv0:v0= .pointer (some ⟨bk,0,none⟩):=by
    have:=hargs 0 v0 (.bptr id bk 0) rfl rfl
    cases this;rfl
   subst hv0
   let O':Nat->Prop:=fun b=>O b\/ ∃i r,i≠id/\H i=some r/\r.blk=some b
   have himm:∀b,aM O tp H w b->aM O' tp bB w b:=fun b hb=>⟨hb.1,fun h=>h.elim hb.2.1 fun⟨i,r,_,h1,h2⟩=>hb.2.2.2 ⟨i,r,h1,h2⟩,hb.2.2.1,fun⟨i,r,h1,_⟩=>by simp at h1⟩
   have hmv:∀y e,R tp (aM O tp H w) w y e->R tp (aM O' tp bB w) w y e:=fun y e hr=>hr.mono (fun _ h=>h) (fun b hb=>⟨himm b hb,rfl⟩) (fun b _=> .refl _ _)
   have hl:R tp (aM O' tp bB w) w (.pointer (some ⟨bk,0,none⟩)) (.cptr cells 0):=by
    have hbk:(Res.box bk cells).blk=some bk:=rfl
    have h1:=hsat.out id _ bk hid hbk
    have hI:aM O' tp bB w bk:=⟨(hsat.ok id _ hid).lt hbk,fun h=>h.elim h1.1 fun⟨i,r,hne,h2,h3⟩=>hne (hsat.dis _ _ _ _ bk h2 hid h3 hbk),h1.2,fun⟨i,r,h2,_⟩=>by simp at h2⟩
    obtain⟨xs,el,g1,g2,g3⟩:=(hsat.ok id _ hid).conv hmv (fun _ _=>rfl)
    obtain⟨f,k1,k2,k3⟩:=ox g1 g2 g3
    have:=R.cptr (tp:=tp) bk 0 cells 0 f hI (fun _=>⟨_,_,g1⟩) k1 k2 k3
    simpa using this
   have hdec:(aD A).dec (.cptr cells 0::ds')=some (.cptr cells 0,x):=by simp[hd]
   obtain⟨hce,hc⟩:=hf O' tp w (.pointer (some ⟨bk,0,none⟩)::vs) (.cptr cells 0::ds') bB d (fun r H'=>∃z,r=er z/\post (.cptr cells 0,x) z/\H'=bB)
    (fun b hb=>hb.elim (hO b) fun⟨i,r,_,h1,h2⟩=>(hsat.ok i r h1).lt h2) (htl.mono fun b ⟨i,r,h,_⟩=>by simp at h) ⟨fun i j r s b h=>by simp at h,fun i r b h=>by simp at h,fun i r h=>by simp at h⟩ (by simpa using hlen)
    (fun k y e h1 h2=>by
      cases k with
      | zero=>simp at h1 h2;subst h1;subst h2;exact hl
      | succ k=>simp at h1 h2;exact hmv _ _ (hargs (k+1) y e (by simpa using h1) (by simpa using h2)))
    (by rw[ra,hdec];exact⟨hp,fun z hz=>⟨z,rfl,hz,rfl⟩⟩)
   refine⟨hce,hc.mono ?_⟩
   rintro e w' ⟨q,r,H',tp',rfl,⟨z,rfl,hz,rfl⟩,t1,t2,t3,hs,ho,hsat',hR⟩
   have hsame:∀b,b < w.heap.size->¬tp b->w'.heap[b]? =w.heap[b]?:=fun b hb ht=>hs.same b hb (fun⟨i,r,h,_⟩=>by simp at h) ht
   have hmove:∀y e,R tp (aM O tp H w) w y e->R tp' (aM O tp' H w') w' y e:=fun y e hr=>hr.mono t1 (fun b hb=>⟨⟨qt1 hb.1 hs.size,hb.2.1,fun h=>by
    rcases t2 b h with h|h
    ·exact hb.2.2.1 h
    ·have:=hb.1;omega,hb.2.2.2⟩,hsame b hb.1 hb.2.2.1⟩) hs.tapes
   refine⟨q,er z,H,tp',rfl,hK z hz,t1,t2,t3,⟨hs.os,hs.tape,hs.output,hs.size,fun b hb _ ht=>hsame b hb ht,hs.tapes,hs.drawn⟩,fun b h=> .inl h,⟨hsat.dis,fun i r b h1 h2=>?_,fun i r h1=>?_⟩,hflat z _ _ _ _ _ _ _ hR⟩
   ·have:=hsat.out i r b h1 h2
    refine⟨this.1,fun h=>?_⟩
    rcases t2 b h with h|h
    ·exact this.2 h
    ·have:=(hsat.ok i r h1).lt h2;omega
   ·exact(hsat.ok i r h1).conv hmove fun b hb=>hsame b ((hsat.ok i r h1).lt hb) (hsat.out i r b h1 hb).2
end
end Go.Gv
