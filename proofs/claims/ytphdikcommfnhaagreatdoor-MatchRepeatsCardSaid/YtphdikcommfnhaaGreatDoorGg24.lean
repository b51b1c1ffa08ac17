/- A part of the framework and of the walks: W8 V57 W13 T18 W14 T19. -/
import Derived.Test.YtphdikcommfnhaaGreatDoorGg23
import Derived.Test.YtphdikcommfnhaaGreatDoorGg21
import Derived.Test.YtphdikcommfnhaaGreatDoorGg19
import Derived.Test.YtphdikcommfnhaaGreatDoorGg22
set_option linter.unusedSimpArgs false
set_option linter.unusedVariables false
set_option linter.unusedSectionVars false
set_option maxRecDepth 100000

namespace Go.Gv
open Cod (enc dec)
variable {S S0:Nat->Spc}
theorem cJ(H:ab)(a b:D)(l bs:List D):FrzTo H (.agg (a::l)) (.agg (b::bs))=(FrzTo H a b/\FrzTo H (.agg l) (.agg bs)):=by
 refine propext ⟨fun h=>?_,fun⟨h1,h2⟩=>?_⟩
 ·cases h with
  | same=>exact⟨.same _, .same _⟩
  | agg hl h=>exact⟨h 0 a b rfl rfl, .agg (by simpa using hl) fun k c c' h1 h2=>h (k+1) c c' (by simpa using h1) (by simpa using h2)⟩
 ·have hl:l.length=bs.length:=by
   cases h2 with
   | same=>rfl
   | agg hl _=>exact hl
  refine .agg (by simp[hl]) fun k c c' e1 e2=>?_
  cases k with
  | zero=>simp at e1 e2;subst e1;subst e2;exact h1
  | succ k=>
    simp at e1 e2
    cases h2 with
    | same=>rw[e1]at e2;cases e2;exact .same _
    | agg _ h=>exact h k c c' e1 e2
def zc:Corpus:=⟨[], [], [], [], [], [], []⟩
def tS{X:Type}(f:X->X)(a b:List X)(j:Nat):List X:=a++ ((b.take j).map f++b.drop j)
theorem Y6{X:Type}(f:X->X)(a b:List X):tS f a b 0=a++b:=by simp[tS]
theorem Y5{X:Type}(f:X->X)(a b:List X):tS f a b b.length=a++b.map f:=by simp[tS]
theorem zL{X:Type}(f:X->X)(a b:List X)(j:Nat):(tS f a b j).length=a.length+b.length:=by simp[tS];omega
theorem qf7{X:Type}(f:X->X)(a b:List X){j:Nat}{y:X}(hy:b[j]? =some y):(tS f a b j)[a.length+j]? =some y:=by
 have hj:=(qtG.1 hy).1
 simp only[tS]
 rw[qtQ (by omega),qtQ (by simp;omega)]
 simp only[qux,qug,quk]
 rw[<-hy]
 congr 1
 omega
theorem qcH{X:Type}(f:X->X)(a b:List X){j:Nat}{y:X}(hy:b[j]? =some y):(tS f a b j).set (a.length+j) (f y)=tS f a b (j+1):=by
 have hj:=(qtG.1 hy).1
 have hd:b.drop j=y::b.drop (j+1):=by
  rw[quh hj]
  rw[(qtG.1 hy).2]
 simp only[tS]
 rw[List.set_append_right _ _ (by omega),List.set_append_right _ _ (by simp;omega)]
 have:a.length+j -a.length - (List.map f (List.take j b)).length=0:=by simp;omega
 rw[this,hd,List.set_cons_zero]
 rw[List.take_succ_eq_append_getElem hj,(qtG.1 hy).2]
 simp
theorem MC{X:Type}(f:X->X)(a b:List X){k:Nat}{y:X}(hk:a.length<=k)(hy:b[k -a.length]? =some y):(tS f a b (k -a.length))[k]? =some y:=by
 have:=qf7 f a b hy
 rwa [Nat.add_sub_cancel' hk]at this
theorem HS{X:Type}(f:X->X)(a b:List X){k:Nat}{y:X}(hk:a.length<=k)(hy:b[k -a.length]? =some y):(tS f a b (k -a.length)).set k (f y)=tS f a b (k+1 -a.length):=by
 have:=qcH f a b hy
 rw[Nat.add_sub_cancel' hk]at this
 rw[this];congr 1;omega
theorem Lg:∀ {l:List sH} {s e:Int},Aw s l e->∀t∈l,s<=t.b/\t.b < t.e/\t.e<=e
 | [],s,e,h,t,ht=>by simp at ht
 | x::r,s,e,h,t,ht=>by
   obtain⟨h1,h2,h3⟩:=h
   have hle:∀ {l:List sH} {s e:Int},Aw s l e->s<=e:=by
    intro l
    induction l with
    | nil=>intro s e h;have h:s=e:=h;omega
    | cons a l ih=>intro s e h;have:=ih h.2.2;have:=h.1;have:=h.2.1;omega
   rcases qtM.1 ht with rfl|ht
   ·have:=hle h3;omega
   ·have:=Lg h3 t ht;omega
def qd8(n:Int)(t:sH):sH:=⟨t.nm,t.b+n,t.e+n,t.kv⟩
theorem Lh:∀ {l:List sH} {s e:Int} {r:List sH} {n f:Int},Aw s l e->Aw 0 r f->n=e->Aw s (l++r.map (qd8 n)) (n+f)
 | [],s,e,r,n,f,h,hr,hn=>by
   have h:s=e:=h
   subst h;subst hn
   have go:∀ (r:List sH) (a:Int),Aw a r f->Aw (a+n) (r.map (qd8 n)) (n+f):=by
    intro r
    induction r with
    | nil=>intro a h;have h:a=f:=h;show a+n=n+f;omega
    | cons x r ih=>intro a h;obtain⟨h1,h2,h3⟩:=h;exact⟨by show x.b+n=a+n;omega,by show x.b+n < x.e+n;omega,ih _ h3⟩
   have:=go r 0 hr
   simpa using this
 | x::l,s,e,r,n,f,h,hr,hn=>⟨h.1,h.2.1,Lh h.2.2 hr hn⟩
def qfB(n:Int)(x:Region):Region:=⟨x.ty,x.b+n,x.e+n,x.kv⟩
def qb8(n m:Int)(x:vk):vk:=⟨x.lb,x.b+n,x.e+n,if 0<=x.par then x.par+m else x.par⟩
def ft(a b:Corpus)(hd:List Int)(rl:List B):Corpus:=⟨a.attrs,a.toks++b.toks,a.texts++b.texts.map (qd8 a.toks.length),a.regs++b.regs.map (qfB a.toks.length),a.nodes++b.nodes.map (qb8 a.toks.length a.nodes.length),hd,rl⟩
theorem SC{a b:Corpus}{hd:List Int}{rl:List B}(ha:Qr a)(hb:Qr b)(l1:a.toks.length+b.toks.length<=4096)(l2:a.texts.length+b.texts.length<=64)(l3:a.regs.length+b.regs.length<=1024)(l4:a.nodes.length+b.nodes.length<=2048)
 (h1:hd.length<=a.toks.length+b.toks.length) (h2:rl.length<=a.toks.length+b.toks.length) (h3:∀h∈hd,h<=a.toks.length+b.toks.length):Qr (ft a b hd rl):=by
 obtain⟨a1,a2,a3,a4,a5,a6,a7,a8,a9,a10,a11,a12,a13⟩:=ha
 obtain⟨b1,b2,b3,b4,b5,b6,b7,b8,b9,b10,b11,b12,b13⟩:=hb
 refine⟨?_,?_,?_,?_,?_,?_,a7,?_,?_,?_,?_,?_,?_⟩
 ·have:=Lh (n:=a.toks.length) a1 b1 rfl
  simpa [ft]using this
 ·simp[ft,a2]
 ·simpa [ft]using l1
 ·simpa [ft]using l2
 ·simpa [ft]using l3
 ·simpa [ft]using l4
 ·simpa [ft]using h1
 ·simpa [ft]using h2
 ·intro x hx
  simp only[ft,qtK,qtU,qt4]at hx ⊢
  rcases hx with hx|⟨y,hy,rfl⟩
  ·have:=a10 x hx;omega
  ·have:=b10 y hy
   simp only[qfB]
   omega
 ·intro x hx
  simp only[ft,qtK,qtU,qt4]at hx ⊢
  rcases hx with hx|⟨y,hy,rfl⟩
  ·have:=a11 x hx;omega
  ·have:=b11 y hy
   simp only[qb8]
   omega
 ·intro j y hy
  simp only[ft]at hy
  by_cases hj:j < a.nodes.length
  ·rw[qt0 hj]at hy
   exact a12 j y hy
  ·rw[qtQ (by omega),qtX]at hy
   simp only[qtR]at hy
   obtain⟨z,hz,rfl⟩:=hy
   have:=b12 _ z hz
   simp only[qb8]
   split <;> omega
 ·intro h hh
  simp only[ft,qt4]at hh ⊢
  have:=h3 h hh;omega
def Qz(x:Corpus×Corpus):Prop:=Qr x.1/\Qr x.2
def Qw(x:Corpus×Corpus)(z:Corpus×Int):Prop:=z.2=0->Qr z.1/\z.1.attrs=x.1.attrs/\z.1.toks=x.1.toks++x.2.toks
abbrev s_r06_Concat:Spc:=aS (a2 Corpus Corpus) Qz (xb (Y:=Corpus) (Z:=Int)) Qw
theorem Lz(h1:S yR=s_r06_Valid)(h2:S iP=s_r06_sameAttributes)(h3:S rP=s_r06_FindText)(h4:S rN=s_r06_allHeads):aq um tG S (a2 Corpus Corpus) Qz (xb (Y:=Corpus) (Z:=Int)) Qw:=by
 rintro⟨a,b⟩ ⟨ha,hb⟩
 have ha:Qr a:=ha
 have hb:Qr b:=hb
 have va:oJ a:=ha.2.2.2.2.2.2.2.2.2.2.2.1
 have vb:oJ b:=hb.2.2.2.2.2.2.2.2.2.2.2.1
 simp[um,tG,h1,h2,va,vb,bD, -Bool.forall_bool]
 intro r y
 refine⟨fun _ y2=>⟨fun _=>?_,fun _ y3=>⟨fun _=>?_,fun _=>?_⟩⟩,fun _=>?_⟩
 case refine_1=>exact⟨zc,by simp[zc,cJ],fun h=>by simp at h⟩
 case refine_2=>exact⟨zc,by simp[zc,cJ],fun h=>by simp at h⟩
 case refine_4=>exact⟨zc,by simp[zc,cJ],fun h=>by simp at h⟩
 refine ba (X:=Unit) [2,3,4] [4] (fun _=>True) (fun _=>[]) (fun _=>[]) ?_ ?_
 ·simp
  intro _
  refine ai (X:=Unit) [2,3,4,37] [4] (b.texts.length) (fun _ _=>True) (fun _=>[]) (fun _=>[]) () (by simp) (by simp) (by first|omega|(simp;omega)) (by simp) (by simp) trivial (by simp) (by simp) ?_ ?_
  ·intro k _ hk _
   simp[hk,h3,bD]
   intro _ _
   exact⟨zc,by simp[zc,cJ],fun h=>by simp at h⟩
  ·simp
 rintro - -
 simp
 intro _ _
 refine ba (X:=Unit) [2,3,4,8,9] [4] (fun _=>a.toks.length+b.toks.length<=4096/\a.texts.length+b.texts.length<=64/\a.regs.length+b.regs.length<=1024/\a.nodes.length+b.nodes.length<=2048) (fun _=>[]) (fun _=>[]) ?_ ?_
 ·obtain⟨a1,a2,a3,a4,a5,a6,a7,a8,a9,a10,a11,a12,a13⟩:=ha
  obtain⟨b1,b2,b3,b4,b5,b6,b7,b8,b9,b10,b11,b12,b13⟩:=hb
  simp
  intro _
  refine⟨by simp only[InR];omega,fun _ _ _=>⟨by simp only[InR];omega,fun _ _ _=>⟨by simp only[InR];omega,fun _ _=>⟨by simp only[InR];omega,fun _=>?_,by omega⟩,fun _=>?_⟩,fun _=>?_⟩,fun _=>?_⟩
  all_goals exact⟨zc,by simp[zc,cJ],fun h=>by simp at h⟩
 ·rintro - ⟨l1,l2,l3,l4⟩
  have hA:=ha
  have hB:=hb
  obtain⟨a1,a2,a3,a4,a5,a6,a7,a8,a9,a10,a11,a12,a13⟩:=ha
  obtain⟨b1,b2,b3,b4,b5,b6,b7,b8,b9,b10,b11,b12,b13⟩:=hb
  simp
  refine⟨by omega,by omega,fun v0 bx=>⟨by omega,by omega,by omega,by omega,fun v1=>⟨by omega,by omega,by omega,by omega,fun v2=>?_⟩⟩⟩
  refine ba (X:=Unit) [2,3,4,8,9,10] [4,10,93,97] (fun _=>True) (fun _=>[]) (fun _=>[(104, .row v2 zF 4 ((a.texts++b.texts.map (qd8 a.toks.length)).map enc))]) ?_ ?_
  ·simp
   intro _
   refine ar (X:=Nat) [2,3,4,8,9,10] [4,10,93,97] (fun k=>a.texts.length<=k/\k<=a.texts.length+b.texts.length) (fun k=>[(11,enc (k:Int))]) (fun k=>[(104, .row v2 zF 4 ((tS (qd8 a.toks.length) a.texts b.texts (k -a.texts.length)).map enc))]) (fun k=>a.texts.length+b.texts.length -k) a.texts.length (by omega) (by simp) (by simp[Y6]) ?_
   intro k hk
   by_cases hkb:k < a.texts.length+b.texts.length
   ·obtain⟨t,ht⟩:=dM (l:=b.texts) (k:=k -a.texts.length) (by omega)
    have hat:=MC (qd8 a.toks.length) a.texts b.texts hk.1 ht
    have hset:=HS (qd8 a.toks.length) a.texts b.texts hk.1 ht
    have hc:=Lg b1 t (dO ht)
    obtain⟨hk9,hgk⟩:=qtG.1 hat
    simp[zL,hat,hgk,hkb,quO,List.set_set]
    refine fun _=>⟨fun _=>⟨by omega,by simp only[InR];omega,by omega,by simp only[InR];omega,by omega,by simp only[InR];omega,k+1,by omega,⟨by omega, .inl ?_⟩,by omega⟩,fun h=>by omega⟩
    rw[<-hset,<-ia]
    simp[qd8]
   ·have hke:k -a.texts.length=b.texts.length:=by omega
    simp[zL,hkb,hke,Y5]
    omega
  rintro - -
  simp
  refine⟨by omega,by omega,by omega,by omega,fun v3=>?_⟩
  refine ba (X:=Unit) [2,3,4,8,9,10] [4,10,93,97,104] (fun _=>True) (fun _=>[]) (fun _=>[(141, .row v3 lz 4 ((a.regs++b.regs.map (qfB a.toks.length)).map enc))]) ?_ ?_
  ·simp
   intro _
   refine ar (X:=Nat) [2,3,4,8,9,10] [4,10,93,97,104] (fun k=>a.regs.length<=k/\k<=a.regs.length+b.regs.length) (fun k=>[(12,enc (k:Int))]) (fun k=>[(141, .row v3 lz 4 ((tS (qfB a.toks.length) a.regs b.regs (k -a.regs.length)).map enc))]) (fun k=>a.regs.length+b.regs.length -k) a.regs.length (by omega) (by simp) (by simp[Y6]) ?_
   intro k hk
   by_cases hkb:k < a.regs.length+b.regs.length
   ·obtain⟨t,ht⟩:=dM (l:=b.regs) (k:=k -a.regs.length) (by omega)
    have hat:=MC (qfB a.toks.length) a.regs b.regs hk.1 ht
    have hset:=HS (qfB a.toks.length) a.regs b.regs hk.1 ht
    have hc:=b10 t (dO ht)
    obtain⟨hk9,hgk⟩:=qtG.1 hat
    simp[zL,hat,hgk,hkb,quO,List.set_set]
    refine fun _=>⟨fun _=>⟨by omega,by simp only[InR];omega,by omega,by simp only[InR];omega,by omega,by simp only[InR];omega,k+1,by omega,⟨by omega, .inl ?_⟩,by omega⟩,fun h=>by omega⟩
    rw[<-hset,<-ia]
    simp[qfB]
   ·have hke:k -a.regs.length=b.regs.length:=by omega
    simp[zL,hkb,hke,Y5]
    omega
  rintro - -
  simp
  refine⟨by omega,by omega,by omega,by omega,fun v4=>?_⟩
  refine ba (X:=Unit) [2,3,4,8,10] [4,10,93,97,104,141] (fun _=>True) (fun _=>[]) (fun _=>[(178, .row v4 sR 4 ((a.nodes++b.nodes.map (qb8 a.toks.length a.nodes.length)).map enc))]) ?_ ?_
  ·simp
   refine ar (X:=Nat) [2,3,4,8,9,10] [4,10,93,97,104,141] (fun k=>a.nodes.length<=k/\k<=a.nodes.length+b.nodes.length) (fun k=>[(13,enc (k:Int))]) (fun k=>[(178, .row v4 sR 4 ((tS (qb8 a.toks.length a.nodes.length) a.nodes b.nodes (k -a.nodes.length)).map enc))]) (fun k=>a.nodes.length+b.nodes.length -k) a.nodes.length (by omega) (by simp) (by simp[Y6]) ?_
   intro k hk
   by_cases hkb:k < a.nodes.length+b.nodes.length
   ·obtain⟨t,ht⟩:=dM (l:=b.nodes) (k:=k -a.nodes.length) (by omega)
    have hat:=MC (qb8 a.toks.length a.nodes.length) a.nodes b.nodes hk.1 ht
    have hset:=HS (qb8 a.toks.length a.nodes.length) a.nodes b.nodes hk.1 ht
    have hc:=b11 t (dO ht)
    have hc2:=b12 _ t ht
    obtain⟨hk9,hgk⟩:=qtG.1 hat
    simp[zL,hat,hgk,hkb,quO,List.set_set]
    refine fun _=>⟨fun _=>⟨by omega,by simp only[InR];omega,by omega,by simp only[InR];omega,by omega,fun hp=>⟨by omega,by simp only[InR];omega,by omega,by simp only[InR];omega,k+1,by omega,⟨by omega, .inl ?_⟩,by omega⟩,fun hp=>⟨by simp only[InR];omega,k+1,by omega,⟨by omega, .inl ?_⟩,by omega⟩⟩,fun h=>by omega⟩
    ·rw[<-hset,<-ia]
     simp[qb8,hp]
    ·rw[<-hset,<-ia]
     simp[qb8,show ¬ (0<=t.par) by omega]
   ·have hke:k -a.nodes.length=b.nodes.length:=by omega
    simp[zL,hkb,hke,Y5]
    omega
  rintro - -
  simp[h4,hA,hB]
  refine fun _ _=>⟨by simp only[InR];omega,fun _=>?_,fun _=>?_⟩
  ·rintro hd1 rl1 ⟨q1,q2,q3⟩ hd2 rl2 ⟨p1,p2,p3⟩
   simp only at q1 q2 q3 p1 p2 p3
   refine⟨by omega,by omega,fun v5=>⟨by omega,by omega,by omega,by omega,fun v6 _=>?_⟩⟩
   refine DI (qeW 247 269 10 bx _ [D.own 93 v0,D.own 97 v1,D.own 104 v2,D.own 141 v3,D.own 178 v4,D.own 269 v5,D.own 249 v6] (by decide) (by decide) rfl rfl (fun m c c' h h'=>?_)) ?_
   ·rcases m with _|_|_|_|_|_|_|m <;> simp at h h' <;> subst h <;> subst h' <;> simp
   refine ai (X:=Value×List Int) [4,8,10,254] [4,93,97,104,141,178,249] hd2.length (fun k x=>x.2.length=hd1.length+k/\∀h∈x.2,h<=a.toks.length+b.toks.length) (fun _=>[]) (fun x=>[(10, .box bx [D.own 93 v0,D.own 97 v1,D.own 104 v2,D.own 141 v3,D.own 178 v4,D.own 269 x.1,D.own 249 v6]),(269, .row x.1 gE 1 (x.2.map enc))]) (v5,hd1) (by simp) (by simp) (by omega) (by simp) (by simp) ⟨rfl,fun h hh=>by have:=q1 h hh;omega⟩ (by simp) (by simp) ?_ ?_
   ·rintro k ⟨v,l⟩ hk ⟨hx1,hx2⟩
    simp only at hx1 hx2
    obtain⟨x,hx⟩:=dM hk
    have hpx:=p1 x (dO hx)
    obtain⟨_,hgx⟩:=qtG.1 hx
    simp[hk,hx,hgx]
    refine ba (X:=Int) [4,8,10,254,255,256] [4,10,93,97,104,141,178,249,269] (fun y=>y<=a.toks.length+b.toks.length) (fun y=>[(19,enc y)]) (fun _=>[]) ?_ ?_
    ·simp
     exact⟨fun h0=>⟨by simp only[InR];omega,by omega⟩,fun h0=>by omega⟩
    ·intro y hy
     simp
     refine⟨by omega,by omega,fun v=>⟨v,l++ [y],⟨by simp;omega,fun h hh=>?_⟩, .inl rfl, .inl ⟨rfl,Nm l y⟩⟩⟩
     rcases qtK.1 hh with hh|hh
     ·exact hx2 h hh
     ·simp at hh;omega
   ·rintro⟨v,l⟩ ⟨hx1,hx2⟩
    simp only at hx1 hx2
    simp
    refine⟨ft a b l (rl1++rl2),?_,fun _=>⟨SC hA hB l1 l2 l3 l4 (by omega) (by simp;omega) hx2,rfl,rfl⟩⟩
    simp only[cJ]
    refine⟨gP (X:=Attr) Cf (by simp[ft]),gP (X:=List B) lA (by simp[ft]),gP (X:=sH) zF (by simp[ft]),gP (X:=Region) lz (by simp[ft]),gP (X:=vk) sR (by simp[ft]),gP (X:=Int) gE (by simp[ft]),gP (X:=B) ay (by simp[ft]), .same _⟩
  ·refine⟨ft a b [] [],?_,fun _=>⟨SC hA hB l1 l2 l3 l4 (by simp) (by simp) (by simp),rfl,rfl⟩⟩
   simp only[cJ]
   refine⟨gP (X:=Attr) Cf (by simp[ft]),gP (X:=List B) lA (by simp[ft]),gP (X:=sH) zF (by simp[ft]),gP (X:=Region) lz (by simp[ft]),gP (X:=vk) sR (by simp[ft]), .nil _, .nil _, .same _⟩
end Go.Gv

namespace Go.Gv
def Qq:List B:=[⟨#[97]⟩,⟨#[98]⟩,⟨#[99]⟩,⟨#[65]⟩,⟨#[97,98]⟩,⟨#[]⟩]
def qaY:List B:=[⟨#[88]⟩,⟨#[89]⟩]
def Lo:List B:=[⟨#[124]⟩,⟨#[124,112,124]⟩,⟨#[124,112,124,113,124]⟩,⟨#[124,113,124]⟩]
def iu:List Attr:=[⟨⟨#[119,111,114,100]⟩,false⟩,⟨⟨#[116,97,103]⟩,false⟩,⟨⟨#[102,101,97,116]⟩,true⟩]
def qeT(l:List Attr):Prop:=l=iu
def Dp(r:List B):Prop:=∃w t f,w∈Qq/\t∈qaY/\f∈Lo/\r=[w,t,f]
def J8(c:Corpus):Prop:=c.attrs=iu/\∀r∈c.toks,Dp r
end Go.Gv

namespace Go.Gv
open Cod (enc dec)
variable {S S0:Nat->Spc}
theorem ZE{a b c:Corpus}(ha:J8 a)(hb:J8 b)(h:c.attrs=a.attrs/\c.toks=a.toks++b.toks):J8 c:=by
 refine⟨h.1.trans ha.1,fun r hr=>?_⟩
 rw[h.2]at hr
 rcases qtK.1 hr with hr|hr
 ·exact ha.2 r hr
 ·exact hb.2 r hr
abbrev s_m_Document:Spc:=aS (aT (a2 B Int)) (fun x=>1<=x.2.2/\x.2.2<=1000) (enc (X:=Corpus)) (fun x c=>Qr c/\J8 c/\(c.toks.length:Int)<=x.2.2)
abbrev s_m_Corpus:Spc:=aS (aT (a1 Int)) (fun x=>1<=x.2/\x.2<=1000) (enc (X:=Corpus)) (fun x c=>Qr c/\J8 c/\(c.toks.length:Int)<=3*x.2)
theorem QN(h1:S dq=s_m_Next)(h2:S mN=s_m_Document)(h3:S wq=s_r06_Concat):aq ou nK S (aT (a1 Int)) (fun x=>1<=x.2/\x.2<=1000) (enc (X:=Corpus)) (fun x c=>Qr c/\J8 c/\(c.toks.length:Int)<=3*x.2):=by
 rintro⟨L,n⟩ hn
 have hn:1<=n/\n<=1000:=hn
 simp[ou,nK,h1,h2,hn]
 intro b y hy hyk hyl b1 k hk0 hk1
 refine ar (X:=Int×Corpus) [0,1,4,5] [4] (fun x=>0<=x.1/\x.1<=2/\Qr x.2/\J8 x.2/\(x.2.toks.length:Int) +x.1*n<=3*n) (fun x=>[(6,enc x.1)]) (fun x=>[(5, .box b1 (enc x.2).cells)]) (fun x=>x.1.toNat) (k,y) ⟨hk0,by omega,hy,hyk,by
  have:k=0\/k=1\/k=2:=by omega
  show(y.toks.length:Int) +k*n<=3*n
  rcases this with rfl|rfl|rfl <;> omega⟩ (by simp) (by simp) ?_
 rintro⟨k,c⟩ ⟨q1,q2,q3,q4,q5⟩
 simp only at q1 q2 q3 q4 q5
 simp[h1,h2,h3,hn]
 refine⟨fun hk=>⟨by omega,by omega,?_⟩,fun hk=>?_⟩
 ·have:k=1\/k=2:=by omega
  rcases this with rfl|rfl
  all_goals
   simp[hn]
   refine fun y hy hyk hyl=>⟨⟨q3,hy⟩,fun a e he=>⟨fun h0=>⟨by simp[InR],_,a,⟨?_,?_,(he h0).1,ZE q4 hyk (he h0).2,by
    have e:=(he h0).2.2
    simp only at e
    rw[e,qt4]
    omega⟩,⟨rfl, .inl ⟨rfl,rfl,rfl,rfl,rfl,rfl,rfl⟩⟩,?_⟩,fun h0=>⟨by simp[InR],_,c,⟨?_,?_,q3,q4,by omega⟩,⟨rfl, .inl ⟨rfl,rfl,rfl,rfl,rfl,rfl,rfl⟩⟩,?_⟩⟩⟩
   all_goals omega
 ·have:k=0:=by omega
  subst this
  exact cB c (by simp) ⟨q3,q4,by show(c.toks.length:Int)<=3*n;omega⟩
end Go.Gv

namespace Go.Gv
def RFz(Hf:ab):Res->Res->Prop
 | .box b cs, .box b' cs'=>b=b'/\cs.length=cs'.length/\∀ (m:Nat) (c c':D),cs[m]? =some c->cs'[m]? =some c'->FrzTo Hf c c'
 | .row x el n es, .row x' el' n' es'=>x=x'/\el=el'/\n=n'/\es.length=es'.length/\(∀d∈es',d.kn=true/\d.cells.length=n)/\∀ (m:Nat) (c c':D),es[m]? =some c->es'[m]? =some c'->∀ (j:Nat) (e e':D),c.cells[j]? =some e->c'.cells[j]? =some e'->FrzTo Hf e e'
 | .tbox el b cs, .tbox el' b' cs'=>el=el'/\b=b'/\cs.length=cs'.length/\∀ (m:Nat) (c c':D),cs[m]? =some c->cs'[m]? =some c'->FrzTo Hf c c'
 | .mrow x es, .mrow x' es'=>x=x'/\es.length=es'.length/\∀ (m:Nat) (c c':D),es[m]? =some c->es'[m]? =some c'->FrzTo Hf c c'
 | r,r'=>r=r'
theorem RFz.blk{Hf:ab}{r r':Res}(h:RFz Hf r r'):r'.blk=r.blk:=by
 cases r <;> cases r' <;> simp only[RFz]at h
 ·obtain⟨rfl,_⟩:=h;rfl
 all_goals first
  | (obtain⟨rfl,rfl,rfl,_⟩:=h;rfl)
  | (obtain⟨rfl,rfl,_⟩:=h;rfl)
  | (obtain⟨rfl,_⟩:=h;rfl)
  | (cases h;done)
  | (cases h;rfl)
theorem RFz.ok{tp I I':Nat->Prop}{w:World}{Hf:ab}{r r':Res}(h:RFz Hf r r')(hr:ResOk (R tp I w) w r)(hok:∀i q,Hf i=some q->ResOk (R tp I w) w q)(hI:∀b,I b->I' b)(hb:∀i q b,Hf i=some q->q.blk=some b->I' b):ResOk (R tp I' w) w r':=by
 have fz:∀ {c c':D} {y:Value},FrzTo Hf c c'->R tp I w y c->R tp I' w y c':=fun h hr=>h.R (H:=bB) hok hI hb hr
 have same:ResOk (R tp I' w) w r:=hr.conv (fun x d hr=>hr.mono (fun _ h=>h) (fun b hb=>⟨hI b hb,rfl⟩) (fun b _=> .refl _ _)) (fun _ _=>rfl)
 cases r with
 | box b cs=>
   cases r' with
   | box b' cs'=>
     obtain⟨rfl,hl,hc⟩:=h
     obtain⟨xs,el,h1,h2,h3⟩:=hr
     refine⟨xs,el,h1,h2.trans hl,fun k y c hy hc'=>?_⟩
     have hk:k < cs.length:=by rw[hl];exact(qtG.1 hc').1
     have h4:=h3 k y cs[k] hy (qtH hk)
     exact⟨h4.1,fz (hc k _ _ (qtH hk) hc') h4.2⟩
   | row x el n es=>cases h
   | iter b s p=>cases h
   | tbox b s p=>cases h
   | mrow=>cases h
   | miter=>cases h
 | iter b s p=>
   cases r' with
   | box b' cs'=>cases h
   | row x el n es=>cases h
   | iter b' s' p'=>cases h;exact same
   | tbox b' s' p'=>cases h
   | mrow=>cases h
   | miter=>cases h
 | tbox b s p=>
   cases r' with
   | box b' cs'=>cases h
   | row x el n es=>cases h
   | iter b' s' p'=>cases h
   | mrow=>cases h
   | miter=>cases h
   | tbox b' s' cs'=>
     obtain⟨rfl,rfl,hl,hc⟩:=h
     obtain⟨xs,h1,h2,h3⟩:=hr
     refine⟨xs,h1,h2.trans hl,fun k y c hy hc'=>?_⟩
     have hk:k < p.length:=by rw[hl];exact(qtG.1 hc').1
     have h4:=h3 k y p[k] hy (qtH hk)
     exact⟨h4.1,fz (hc k _ _ (qtH hk) hc') h4.2⟩
 | row x el n es=>
   cases r' with
   | box b' cs'=>cases h
   | iter b' s' p'=>cases h
   | tbox b' s' p'=>cases h
   | mrow=>cases h
   | miter=>cases h
   | row x' el' n' es'=>
     obtain⟨rfl,rfl,rfl,hl,hkn,hc⟩:=h
     obtain⟨xs,h1,h2,h3⟩:=hr
     refine⟨xs,hl ▸h1,hkn,fun k y c hy hc'=>?_⟩
     have hw:∀d∈es,d.cells.length=n:=fun d hd=>(h2 d hd).2
     have hw':∀d∈es',d.cells.length=n:=fun d hd=>(hkn d hd).2
     have hfl:=aO hw
     have hfl':=aO hw'
     have hk:k < (aU es).length:=by
      have:=(qtG.1 hc').1
      rw[hfl,hl,<-hfl'];exact this
     have hk2:k < es.length*n:=by rw[<-hfl];exact hk
     have hn:0 < n:=by
      rcases qvC n with e|e
      ·subst e;simp at hk2
      ·exact e
     have h4:=h3 k y (aU es)[k] hy (qtH hk)
     refine⟨h4.1,fz ?_ h4.2⟩
     have hdm:k=(k/n) *n+k % n:=by have:=quX k n;rw[quT]at this;omega
     have hmod:k % n < n:=qu4 _ hn
     have g1:=cS hw (i:=k/n) (j:=k % n) hmod
     have g2:=cS hw' (i:=k/n) (j:=k % n) hmod
     rw[<-hdm]at g1 g2
     rw[hc']at g2
     rw[qtH hk]at g1
     cases e1:es[k/n]? with
     | none=>rw[e1]at g1;cases g1
     | some c1=>
       cases e2:es'[k/n]? with
       | none=>rw[e2]at g2;cases g2
       | some c2=>
         rw[e1]at g1
         rw[e2]at g2
         exact hc _ c1 c2 e1 e2 _ _ _ g1.symm g2.symm
 | mrow x es=>
   cases r' with
   | box=>cases h
   | iter=>cases h
   | tbox=>cases h
   | row=>cases h
   | miter=>cases h
   | mrow x' es'=>
     obtain⟨rfl,hl,hc⟩:=h
     obtain⟨b,ents,clock,rfl,h1,h2,h3⟩:=hr
     refine⟨b,ents,clock,rfl,h1,h2,h3.1.trans hl,fun k e c he hc'=>?_⟩
     have hk:k < es.length:=by rw[hl];exact(qtG.1 hc').1
     exact fz (hc k _ _ (qtH hk) hc') (h3.2 k e _ he (qtH hk))
 | miter b c l=>
   cases r' with
   | box=>cases h
   | iter=>cases h
   | tbox=>cases h
   | row=>cases h
   | mrow=>cases h
   | miter=>cases h;exact same
def RFe(Hf:ab)(r r':Res):Prop:=r=r'\/RFz Hf r r'
theorem RFe.blk{Hf:ab}{r r':Res}(h:RFe Hf r r'):r'.blk=r.blk:=by
 rcases h with rfl|h
 ·rfl
 ·exact h.blk
theorem RFe.ok{tp I I':Nat->Prop}{w:World}{Hf:ab}{r r':Res}(h:RFe Hf r r')(hr:ResOk (R tp I w) w r)(hok:∀i q,Hf i=some q->ResOk (R tp I w) w q)(hI:∀b,I b->I' b)(hb:∀i q b,Hf i=some q->q.blk=some b->I' b):ResOk (R tp I' w) w r':=by
 rcases h with rfl|h
 ·exact hr.conv (fun x d hr=>hr.mono (fun _ h=>h) (fun b hb=>⟨hI b hb,rfl⟩) (fun b _=> .refl _ _)) (fun _ _=>rfl)
 ·exact h.ok hr hok hI hb
theorem isNilRow.blk'{r:Res}(h:isNilRow r):r.blk=none:=by
 cases r with
 | box b c=>exact h.elim
 | iter b s p=>exact h.elim
 | tbox b s p=>exact h.elim
 | mrow=>exact h.elim
 | miter=>exact h.elim
 | row x el n es=>obtain⟨rfl,rfl⟩:=h;rfl
theorem Xa{σ σ':Sg}{H H' Hf:ab}(ρ:Nat->Nat)(h1:∀t,FrzTo Hf (σ t) (σ' t))(h2:∀i r,H' i=some r->(∃r0,H (ρ i)=some r0/\RFe Hf r0 r)\/isNilRow r)
 (h3:∀i j r s,H' i=some r->H' j=some s->ρ i=ρ j->i=j\/isNilRow r\/isNilRow s) (h4:∀i r,Hf i=some r->H i=some r/\∀j r',H' j=some r'->ρ j=i->isNilRow r'):Wk σ H σ' H':=by
 intro E a w ⟨hd,hN,tp,h,hr⟩
 have hblk:∀i r c,H' i=some r->r.blk=some c->∃r0,H (ρ i)=some r0/\r0.blk=some c/\ ¬isNilRow r:=fun i r c k1 k2=>by
  have hn:¬isNilRow r:=fun hn=>by rw[hn.blk']at k2;cases k2
  rcases h2 i r k1 with⟨r0,k3,k4⟩|k3
  ·exact⟨r0,k3,k4.blk ▸k2,hn⟩
  ·exact absurd k3 hn
 have hown:∀c,bA H' c->bA H c:=fun c ⟨i,r,k1,k2⟩=>by
  obtain⟨r0,k3,k4,_⟩:=hblk i r c k1 k2
  exact⟨ρ i,r0,k3,k4⟩
 have himm:∀c,aM E.O tp H w c->aM E.O tp H' w c:=fun c hb=>⟨hb.1,hb.2.1,hb.2.2.1,fun ho=>hb.2.2.2 (hown c ho)⟩
 have hfok:∀i q,Hf i=some q->ResOk (R tp (aM E.O tp H w) w) w q:=fun i q hq=>h.sat.ok i q (h4 i q hq).1
 have hfb:∀i q b,Hf i=some q->q.blk=some b->aM E.O tp H' w b:=fun i q b hq hb=>by
  obtain⟨k1,k2⟩:=h4 i q hq
  have ho:=h.sat.out i q b k1 hb
  refine⟨(h.sat.ok i q k1).lt hb,ho.1,ho.2,fun⟨j,s,k3,k4⟩=>?_⟩
  obtain⟨s0,k5,k6,k7⟩:=hblk j s b k3 k4
  exact k7 (k2 j s k3 (h.sat.dis (ρ j) i s0 q b k5 k1 k6 hb))
 have move:∀x d,R tp (aM E.O tp H w) w x d->R tp (aM E.O tp H' w) w x d:=fun x d hr=>
  hr.mono (fun _ h=>h) (fun b hb=>⟨himm b hb,rfl⟩) (fun b _=> .refl _ _)
 refine⟨hd,hN,tp,⟨h.hO,h.tpx,h.tpn,h.tpl,h.step,fun b hb=>h.loc b (hown b hb),⟨fun i j r s c k1 k2 k3 k4=>?_,fun i r c k1 k2=>?_,fun i r k1=>?_⟩⟩,fun t=>(h1 t).R (H:=bB) hfok himm hfb (hr t)⟩
 ·obtain⟨r0,a1,a2,a3⟩:=hblk i r c k1 k3
  obtain⟨s0,b1,b2,b3⟩:=hblk j s c k2 k4
  rcases h3 i j r s k1 k2 (h.sat.dis _ _ r0 s0 c a1 b1 a2 b2)with e|e|e
  ·exact e
  ·exact absurd e a3
  ·exact absurd e b3
 ·obtain⟨r0,a1,a2,_⟩:=hblk i r c k1 k2
  exact h.sat.out _ r0 c a1 a2
 ·rcases h2 i r k1 with⟨r0,k3,k4⟩|k3
  ·exact k4.ok (h.sat.ok _ r0 k3) hfok himm hfb
  ·cases r with
   | box b c=>exact k3.elim
   | iter b s p=>exact k3.elim
   | tbox b s p=>exact k3.elim
   | mrow=>exact k3.elim
   | miter=>exact k3.elim
   | row x el n es=>
     obtain⟨rfl,rfl⟩:=k3
     exact⟨[],qvb _ _ _ _,by simp,fun k y c h=>by simp at h⟩
def zB(Hf:ab):List (Nat×D)->Sg->Prop
 | [],_=>True
 | (t,d)::l,σ=>FrzTo Hf (σ t) d/\zB Hf l σ
@[simp] theorem qjs(Hf:ab)(σ:Sg):zB Hf [] σ=True:=id rfl
@[simp] theorem qjt(Hf:ab)(t:Nat)(d:D)(l:List (Nat×D))(σ:Sg):zB Hf ((t,d)::l) σ=(FrzTo Hf (σ t) d/\zB Hf l σ):=id rfl
def Rq(rn:List (Nat×Nat))(i:Nat):Nat:=(rn.lookup i).getD i
def wT(Hf:ab)(rn:List (Nat×Nat)):List (Nat×Res)->ab->Prop
 | [],_=>True
 | (i,r)::l,H=>((∃r0,H (Rq rn i)=some r0/\RFe Hf r0 r)\/isNilRow r)/\wT Hf rn l H
@[simp] theorem qjq(Hf:ab)(rn:List (Nat×Nat))(H:ab):wT Hf rn [] H=True:=id rfl
@[simp] theorem qjr(Hf:ab)(rn:List (Nat×Nat))(i:Nat)(r:Res)(l:List (Nat×Res))(H:ab):wT Hf rn ((i,r)::l) H=(((∃r0,H (Rq rn i)=some r0/\RFe Hf r0 r)\/isNilRow r)/\wT Hf rn l H):=id rfl
def FT(gv:List Nat)(H:ab):ab:=fun i=>if i∈gv then H i else none
def qin(rn:List (Nat×Nat))(ids gv:List Nat):Prop:=(∀i∈ids,∀j∈ids,Rq rn i=Rq rn j->i=j)/\(∀i∈ids,Rq rn i∉gv)
instance (rn:List (Nat×Nat)) (ids gv:List Nat):Decidable (qin rn ids gv):=by unfold qin;infer_instance
theorem cW{l:List (Nat×Res)}{H:ab}{i:Nat}{r:Res}(h:fE l H i=some r):(i,r) ∈l\/(i∉l.map (·.1)/\H i=some r):=by
 induction l with
 | nil=>exact .inr ⟨by simp,h⟩
 | cons p l ih=>
   obtain⟨j,q⟩:=p
   simp only[fE,ah]at h
   split at h
   ·rename_i e;subst e;cases h;exact .inl (by simp)
   ·rename_i e
    rcases ih h with h|⟨h1,h2⟩
    ·exact .inl (by simp[h])
    ·exact .inr ⟨by simp[e,h1],h2⟩
theorem RE{Hf:ab}{rn:List (Nat×Nat)}{l:List (Nat×Res)}{H:ab}{i:Nat}{r:Res}(h:wT Hf rn l H)(hm:(i,r) ∈l):(∃r0,H (Rq rn i)=some r0/\RFe Hf r0 r)\/isNilRow r:=by
 induction l with
 | nil=>simp at hm
 | cons p l ih=>
   obtain⟨j,q⟩:=p
   rcases qtM.1 hm with e|hm
   ·cases e;exact h.1
   ·exact ih h.2 hm
theorem Dx{σ0 σ:Sg}{H0 H:ab}{ks hk gv:List Nat}{rn:List (Nat×Nat)}{sl:List (Nat×D)}{hp:List (Nat×Res)}(hi:qin rn (hp.map (·.1) ++hk) gv)(hid:∀i∈hk,i∉hp.map (·.1)->Rq rn i=i)
 (h1:zB (FT gv H) sl σ) (h2:vm ks σ0 σ) (h3:wT (FT gv H) rn hp H) (h4:zC hk H0 H):Wk σ H (sF sl (iJ ks σ0)) (fE hp (jy hk H0)):=by
 have hmem:∀i r,fE hp (jy hk H0) i=some r->i∈hp.map (·.1) ++hk:=fun i r h=>by
  rcases cW h with h|⟨_,h⟩
  ·exact qtK.2 (.inl (qtU.2 ⟨_,h,rfl⟩))
  ·rw[Ia]at h
   split at h
   ·rename_i e;exact qtK.2 (.inr e)
   ·cases h
 refine Xa (Hf:=FT gv H) (Rq rn) (fun t=>?_) (fun i r h=>?_) (fun i j r s k1 k2 e=> .inl (hi.1 i (hmem i r k1) j (hmem j s k2) e)) (fun i r h=>?_)
 ·clear hi hid h3 hmem
  induction sl with
  | nil=>
    rw[Sq,H9]
    split
    ·rename_i h;rw[<-h2 t h];exact .same _
    ·exact .any _
  | cons p sl ih=>
    obtain⟨s,d⟩:=p
    simp only[sF,upd]
    split
    ·rename_i e;subst e;exact h1.1
    ·exact ih h1.2
 ·rcases cW h with h|⟨h5,h⟩
  ·exact RE h3 h
  ·rw[Ia]at h
   split at h
   ·rename_i e
    rw[hid i e h5,h4 i e]
    exact .inl ⟨r,h, .inl rfl⟩
   ·cases h
 ·simp only[FT]at h
  split at h
  ·rename_i e
   exact⟨h,fun j r' k1 k2=>absurd e (k2 ▸hi.2 j (hmem j r' k1))⟩
  ·cases h
@[simp] theorem qrM(i:Nat):Rq [] i=i:=id rfl
@[simp] theorem qrN(i j:Nat)(l:List (Nat×Nat))(k:Nat):Rq ((i,j)::l) k=if k=i then j else Rq l k:=by
 simp only[Rq,List.lookup]
 by_cases e:k=i
 ·subst e;simp
 ·have:(k==i)=false:=by simpa using e
  simp[this,e]
def FzL(Hf:ab):List D->List D->Prop
 | [], []=>True
 | a::l,b::r=>FrzTo Hf a b/\FzL Hf l r
 | _,_=>False
@[simp] theorem qsl(Hf:ab):FzL Hf [] []=True:=id rfl
@[simp] theorem qsm(Hf:ab)(a b:D)(l r:List D):FzL Hf (a::l) (b::r)=(FrzTo Hf a b/\FzL Hf l r):=id rfl
theorem FzL.get{Hf:ab} :∀ {l r:List D},FzL Hf l r->l.length=r.length/\∀ (m:Nat) (c c':D),l[m]? =some c->r[m]? =some c'->FrzTo Hf c c'
 | [], [],_=>⟨rfl,fun m c c' h=>by simp at h⟩
 | a::l,b::r,h=>by
   obtain⟨h1,h2⟩:=h
   have ih:=FzL.get h2
   refine⟨by simp[ih.1],fun m c c' e1 e2=>?_⟩
   cases m with
   | zero=>simp at e1 e2;subst e1;subst e2;exact h1
   | succ m=>simp at e1 e2;exact ih.2 m c c' e1 e2
@[simp] theorem qlK(Hf:ab)(b:Nat)(cs cs':List D):RFe Hf (.box b cs) (.box b cs')=(cs=cs'\/FzL Hf cs cs'):=by
 refine propext ⟨fun h=>?_,fun h=>?_⟩
 ·rcases h with h|⟨_,hl,hc⟩
  ·cases h;exact .inl rfl
  ·right
   induction cs generalizing cs' with
   | nil=>cases cs' with
     | nil=>trivial
     | cons b r=>simp at hl
   | cons a l ih=>cases cs' with
     | nil=>simp at hl
     | cons b r=>exact⟨hc 0 a b rfl rfl,ih r (by simpa using hl) fun m c c' h1 h2=>hc (m+1) c c' (by simpa using h1) (by simpa using h2)⟩
 ·rcases h with rfl|h
  ·exact .inl rfl
  ·exact .inr ⟨rfl,h.get.1,h.get.2⟩
def qbl(σ0:Sg)(H0:ab)(ks hk gv:List Nat)(rn:List (Nat×Nat))(sl:List (Nat×D))(hp:List (Nat×Res))(σ:Sg)(H:ab):Prop:=zB (FT gv H) sl σ/\vm ks σ0 σ/\wT (FT gv H) rn hp H/\zC hk H0 H
@[simp] theorem qkH(σ0:Sg)(H0:ab)(ks hk gv:List Nat)(rn:List (Nat×Nat))(sl:List (Nat×D))(hp:List (Nat×Res))(σ:Sg)(H:ab):qbl σ0 H0 ks hk gv rn sl hp σ H=(zB (FT gv H) sl σ/\vm ks σ0 σ/\wT (FT gv H) rn hp H/\zC hk H0 H):=id rfl
section
variable {S:Nat->Spc}{σ:Sg}{H:ab}{K:Ex->Sg->ab->Prop}
theorem jj{X:Type}(ks hk gv:List Nat)(rn:List (Nat×Nat))(P:X->Prop)(sl:X->List (Nat×D))(hp:X->List (Nat×Res)){k:Nat}{a b:CC}(ids:List Nat)(hids:∀x,(hp x).map (·.1)=ids)(hi:qin rn (ids++hk) gv/\∀i∈hk,i∉ids->Rq rn i=i)
 (ha:vc S a (VH (fun σ' H'=>∃x,P x/\qbl σ H ks hk gv rn (sl x) (hp x) σ' H') K) σ H)
 (hb:∀x,P x->vc S b K (sF (sl x) (iJ ks σ)) (fE (hp x) (jy hk H))):vc S (U7 k a b) K σ H:=by
 refine qbQ P _ _ (vp a _ _ (fun e σ' H' h=>?_) ha) hb
 cases e with
 | norm=>
   obtain⟨x,h1,h2⟩:=h
   exact⟨x,h1,Dx (by rw[hids x];exact hi.1) (by rw[hids x];exact hi.2) h2.1 h2.2.1 h2.2.2.1 h2.2.2.2⟩
 | ex i=>exact h
 | ret=>exact h
end
end Go.Gv

namespace Go.Gv
open Cod (enc dec)
variable {S S0:Nat->Spc}
end Go.Gv

namespace Go.Gv
section
variable {X Y:Type}
def qeU(cf:Y->List D)(b:Nat)(post:Y->Prop)(r:D)(H:ab):Prop:=∃y cs,r= .tup []/\H 1=some (.box b cs)/\FzL (qdg 1 [] H) cs (cf y)/\post y
def Nq(cc:CC)(rs:List aj)(S:Nat->Spc)(ce:X->List D)(cf:Y->List D)(pre:X->Prop)(post:X->Y->Prop):Prop:=
 ∀L b x,pre x->vc S cc (rG rs fun r H'=>qeU cf b (post x) r H') (cR [.tape L, .bptr 1 b 0]) (ah bB 1 (some (.box b (ce x))))
variable {P:Program}{S:Nat->Spc}{f:Nat}{im:List Nat}{cc:CC}{rs:List aj}{N:Nat}
theorem EU{ce:X->List D}{cf:Y->List D}{pre:X->Prop}{post:X->Y->Prop}(hS:∀f,Tri P f (S f).pt)(h:am P f im cc rs N)(hN:2<=N)(hw:Nq cc rs S ce cf pre post):Tri P f (qnN ce cf pre post).pt:=by
 obtain⟨tS,enter,fn,code,h1,h2,h3,h4,h5⟩:=h
 refine Q3 hS tS h1 h2 enter h3 h4 h5 ?_
 rintro ds H d K ⟨L,id,b,x,rfl,hid,hp,hK⟩
 refine⟨hN, [.tape L, .bptr 1 b 0],ah bB 1 (some (.box b (ce x))),fun _=>id, .cons (.same _) (.cons (.bptr _ _ _ _) .nil),fun i r h=>?_,fun i j r s h h' _=>?_,_,hw L b x hp,?_⟩
 ·by_cases e:i=1
  ·subst e
   simp only[ah,if_true]at h
   cases h
   exact hid
  ·simp[ah,e,bB]at h
 ·have a:i=1:=by
   by_cases e:i=1
   ·exact e
   ·simp[ah,e,bB]at h
  have b:j=1:=by
   by_cases e:j=1
   ·exact e
   ·simp[ah,e,bB]at h'
  exact a.trans b.symm
 ·rintro r H' ⟨y,cs,rfl,hj,hz,hpost⟩
  have hW:=qc5 (H:=H') 1 b cs (cf y) [] hj hz.get.1 hz.get.2
  have hj:left 1 b (cf y) [] H' 1=some (.box b (cf y)):=rfl
  refine⟨.tup [],left 1 b (cf y) [] H',bB,ah H id (some (.box b (cf y))),fun i=>if i=id then some 1 else none,hW, .same _,fun j q h=>by simp[bB]at h,hK y hpost,fun i s hi=>?_,fun i j' k s q hi hj' e1 e2=>?_⟩
  ·by_cases e:i=id
   ·subst e
    simp only[ah,if_true]at hi
    cases hi
    simpa using hj
   ·simp only[ah,e,if_false]at hi ⊢
    exact⟨hi,fun k q h he=>e he.symm⟩
  ·have a:i=id:=by
    by_cases e:i=id
    ·exact e
    ·simp[e]at e1
   have b:j'=id:=by
    by_cases e:j'=id
    ·exact e
    ·simp[e]at e2
   exact a.trans b.symm
end
end Go.Gv
