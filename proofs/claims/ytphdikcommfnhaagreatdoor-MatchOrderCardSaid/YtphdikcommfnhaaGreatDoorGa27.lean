/- A part of the framework and of the walks: W131 W132 C52 W133 W134. -/
import Derived.Test.YtphdikcommfnhaaGreatDoorGa26
import Derived.Test.YtphdikcommfnhaaGreatDoorGa22
set_option linter.unusedSimpArgs false
set_option linter.unusedVariables false
set_option maxRecDepth 100000

namespace Go.Gv
open Cod (enc dec)
variable {S S0:Nat->Spc}
abbrev xO: (Rx×Bool)->D:=J4 (Y:=Rx) (Z:=Bool)
abbrev MM:Spc:=Rf a0 xO WM
abbrev Iu:Spc:=Rf a0 xO Pf
theorem qbT {b:Nat} {post:Rp->(Rx×Bool)->Prop} {x:Rx} {v:Bool} {H:aa} (s:Rp) (h0:H 0=some (.box b (nS s))) (hq:post s (x,v)):Ai xO b post (.tup [enc x, .v (.bool v)]) H:=zS s (x,v) (.same _) h0 hq
theorem xK {b:Nat} {post:Rp->(Rx×Bool)->Prop} {x:Rx} {v:Bool} {H:aa} (s:Rp) (h0:H 0=some (.box b (nS s))) (hq:post s (x,v)):Ai xO b post (.tup [.agg [.v (.int .i64 x.op), .v (.int .i64 x.mn), .v (.int .i64 x.mx), .list 2 (x.rs.map enc), .list 5 (x.kids.map enc)], .v (.bool v)]) H:=by
 have e: (D.agg [.v (.int .i64 x.op), .v (.int .i64 x.mn), .v (.int .i64 x.mx), .list 2 (x.rs.map enc), .list 5 (x.kids.map enc)])=enc x:=by simp
 rw[e]
 exact qbT s h0 hq
set_option maxHeartbeats 1000000 in
theorem Ia (h1:S ai=gn) (h2:S k8=MK) (h3:S dR=MM) (h4:S bD=s_crune) (h5:S bv=yH):qh dX dN S a0 xO (fun s z=> ∃r,Pf s z=some r) (fun s z s' y=> Pf s z=some (s',y)):=by
 rintro b s ⟨⟩ ⟨r,hr⟩
 have hr0:=hr
 obtain⟨c,hc,h⟩:=Option.bind_eq_some_iff.1 hr
 have hsz:=vg hc
 have h128:c < 128:=by
  rcases hsz.2 with⟨_,rfl⟩ | ⟨_,_,_,x,_,hlt,rfl⟩ <;> omega
 split at h
 ·cases h
 rename_i e40
 split at h
 ·rename_i e46
  subst e46
  have hp:InR .i64 (s.pos+1):=by
   rcases hsz.2 with⟨_,e⟩ | ⟨_,_,_,x,_,hlt,e⟩
   ·cases e
   ·simp only[InR];omega
  cases h
  simp[dX,dN,h1,h2,jn,hc,hp, -Bool.forall_bool, -Bool.exists_bool]
  exact fun _=> xK s.bump (by simp[Rp.bump]) hr0
 rename_i e46
 split at h
 ·rename_i e91
  subst e91
  obtain⟨s',x',t'⟩:=r
  simp[dX,dN,h1,h3,jn,hc,h, -Bool.forall_bool, -Bool.exists_bool]
  exact fun _=> xK s' (by simp) hr0
 rename_i e91
 split at h
 ·cases h
 ·rename_i hn
  obtain⟨q,hq,rfl⟩:=Option.map_eq_some_iff.1 h
  obtain⟨s',⟨c'⟩,t'⟩:=q
  have hq':=hq
  obtain⟨c2,hc2,h'⟩:=Option.bind_eq_some_iff.1 hq'
  rw[hc] at hc2
  obtain rfl:=Option.some.inj hc2
  split at h'
  ·cases h'
  rename_i hn2
  have n0:0<=c:=by omega
  have n92:c≠92:=fun e=> hn2 (.inr e)
  have nin:Wo ⟨#[92,46,91,93,40,41,123,125,124,42,43,63]⟩ c=false:=by
   cases e:Wo ⟨#[92,46,91,93,40,41,123,125,124,42,43,63]⟩ c with
   | false=> rfl
   | true=> exact absurd ⟨n92,e⟩ hn
  have hq2:wo s ⟨#[92,46,91,93,40,41,123,125,124,42,43,63]⟩=some (s',⟨c'⟩,t'):=hq
  simp[dX,dN,h1,h2,h4,h5,jn,hc,e40,e46,e91,n0,n92,h128,nin,hq2, -Bool.forall_bool, -Bool.exists_bool]
  exact fun _=> xK s' (by simp) hr0
abbrev MJ:Spc:=Rf a0 xO Sb
theorem Pc {p:Rp} {c:Int} (h:FT p=some c):c < 128/\ -1<=c/\(0<=c->InR .i64 (p.pos+1)):=by
 obtain⟨h1,h2⟩:=vg h
 rcases h2 with⟨_,rfl⟩ | ⟨_,_,_,x,_,hlt,rfl⟩
 ·exact⟨by omega,by omega,fun h=> absurd h (by omega)⟩
 ·exact⟨by omega,by omega,fun _=> by simp only[InR];omega⟩
theorem PZ {c:Int} {m:Int×Int} (h:Gz c=some m):c=42/\m=(0, -1)\/c=43/\m=(1, -1)\/c=63/\m=(0,1):=by
 unfold Gz at h
 split at h
 ·exact .inl ⟨by assumption,(Option.some.inj h).symm⟩
 split at h
 ·exact .inr (.inl ⟨by assumption,(Option.some.inj h).symm⟩)
 split at h
 ·exact .inr (.inr ⟨by assumption,(Option.some.inj h).symm⟩)
 cases h
theorem Hm {c:Int} (h:Gz c=none):c≠42/\c≠43/\c≠63:=by
 unfold Gz at h
 refine⟨fun e=> ?_,fun e=> ?_,fun e=> ?_⟩ <;> (subst e;simp at h)
def su (o:Option (Int×Int)) (x:Rx):List D:=match o with
 | none=> [.v (.int .i64 x.op), .v (.int .i64 x.mn), .v (.int .i64 x.mx), .list 2 (x.rs.map enc), .list 5 (x.kids.map enc)]
 | some m=> [.v (.int .i64 4), .v (.int .i64 m.1), .v (.int .i64 m.2), .v (.slice none 0 0), .list 5 [enc x]]
theorem qbS {b:Nat} {post:Rp->(Rx×Bool)->Prop} {m:Int×Int} {e:Rx} {H:aa} (s:Rp) (h0:H 0=some (.box b (nS s))) (hq:post s (⟨4,m.1,m.2, [], [e]⟩,true)):Ai xO b post (.tup [.agg (su (some m) e), .v (.bool true)]) H:=by
 refine zS s (⟨4,m.1,m.2, [], [e]⟩,true) (.tup rfl fun k c c' hc hc'=> ?_) h0 hq
 match k with
 | 0=> cases hc;cases hc';exact Js [] [e] (.nil _) (.same _)
 | 1=> cases hc;cases hc';exact .same _
 | k+2=> simp at hc
set_option maxHeartbeats 2000000 in
theorem Ds (h1:S ai=gn) (h2:S ek=Iu):qh gI gr S a0 xO (fun s z=> ∃r,Sb s z=some r) (fun s z s' y=> Sb s z=some (s',y)):=by
 rintro b s ⟨⟩ ⟨r,hr⟩
 have hr0:=hr
 obtain⟨⟨s1,e,ok⟩,ha,h⟩:=Option.bind_eq_some_iff.1 hr
 simp only at h
 split at h
 rotate_left
 ·cases h
 rename_i hok
 subst hok
 obtain⟨c,hc,h⟩:=Option.bind_eq_some_iff.1 h
 split at h
 ·cases h
 rename_i e123
 have hcc:=Pc hc
 simp[gI,gr,h2,ha, -Bool.forall_bool, -Bool.exists_bool]
 intro b2 b4
 refine aY (X:=Option (Int×Int)) [0,2,4,5] [2] (fun o=> ∀m,o=some m->Gz c=some m) (fun _=> []) (fun o=> [(0, .box b (nS (match o with | none=> s1 | some _=> s1.bump))),(4, .box b4 (su o e))]) (fun o=> match o with | none=> 1 | some _=> 0) none (fun m h=> by cases h) (by simp) (by simp[su]) ?_
 rintro(_ | m) hP
 ·cases hm:Gz c with
  | none=>
    rw[hm] at h
    cases h
    obtain⟨n1,n2,n3⟩:=Hm hm
    simp[su,h1,jn,hc,n1,n2,n3,e123, -Bool.forall_bool, -Bool.exists_bool]
    exact xK s1 (by simp) hr0
  | some m=>
    rcases PZ hm with⟨rfl,rfl⟩ | ⟨rfl,rfl⟩ | ⟨rfl,rfl⟩
    all_goals
     have hin:=hcc.2.2 (by omega)
     simp[su,h1,jn,hc,hin, -Bool.forall_bool, -Bool.exists_bool]
     first
      | exact⟨some (0, -1),by simp,⟨.inl ⟨rfl,rfl,rfl,rfl⟩, .inl rfl⟩,rfl⟩
      | exact⟨some (1, -1),by simp,⟨.inl ⟨rfl,rfl,rfl,rfl⟩, .inl rfl⟩,rfl⟩
      | exact⟨some (0,1),by simp,⟨.inl ⟨rfl,rfl,rfl,rfl⟩, .inl rfl⟩,rfl⟩
 ·have hm:=hP m rfl
  rw[hm] at h
  simp only at h
  obtain⟨d,hd,h⟩:=Option.bind_eq_some_iff.1 h
  split at h
  ·cases h
  rename_i hn
  cases h
  have hd':d≠123/\Gz d=none:=⟨fun e=> hn (.inl e),by
   cases q:Gz d with
   | none=> rfl
   | some q'=> exact absurd (.inr (by rw[q];rfl)) hn⟩
  obtain⟨n1,n2,n3⟩:=Hm hd'.2
  have n4:=hd'.1
  simp[su,h1,jn,hd,n1,n2,n3,n4, -Bool.forall_bool, -Bool.exists_bool]
  simpa [su, -Bool.forall_bool, -Bool.exists_bool] using qbS (e:=e) (m:=m) s1.bump (by simp) hr0
end Go.Gv

namespace Go.Gv
open Cod (enc dec)
variable {S S0:Nat->Spc}
theorem Yy {p:Rp} {q:Rp× (Rx×Bool)} (h:Sb p ()=some q):q.2.2=true:=by
 obtain⟨a,_,h⟩:=Option.bind_eq_some_iff.1 h
 split at h
 ·obtain⟨c,_,h⟩:=Option.bind_eq_some_iff.1 h
  split at h
  ·cases h
  ·split at h
   ·obtain⟨d,_,h⟩:=Option.bind_eq_some_iff.1 h
    split at h
    ·cases h
    ·cases h;rfl
   ·cases h;rfl
 ·cases h
theorem KE {op:Int} {l:List Rx} (h:l.length≠1):Nq op l=⟨op,0,0, [],l⟩:=by
 match l,h with
 | [],_=> rfl
 | [e],h=> exact absurd rfl h
 | _::_::_,_=> rfl
theorem Tz {b:Nat} {post:Rp->(Rx×Bool)->Prop} {op:Int} {l:List Rx} {id el:Nat} {v:Value} {H:aa} (s:Rp) (h0:H 0=some (.box b (nS s))) (hi:id≠0) (h1:H id=some (.row v el 5 (l.map enc))) (hq:post s (⟨op,0,0, [],l⟩,true)):
 Ai xO b post (.tup [.agg [.v (.int .i64 op), .v (.int .i64 0), .v (.int .i64 0), .v (.slice none 0 0), .own id v], .v (.bool true)]) H:=by
 refine zS s (⟨op,0,0, [],l⟩,true) (.tup rfl fun k c c' hc hc'=> ?_) h0 hq
 match k with
 | 0=>
   cases hc;cases hc'
   refine Js [] l (.nil _) (.row (el:=el) (by simp[hi];exact h1) rfl (fun d hd=> ?_) (fun k c c' hc hc'=> ?_))
   ·obtain⟨x,_,rfl⟩:=List.mem_map.1 hd
    exact⟨Cod.kn x,Cod.wid x⟩
   ·rw[hc] at hc';cases hc';exact .same _
 | 1=> cases hc;cases hc';exact .same _
 | k+2=> simp at hc
abbrev MN:Spc:=Rf a0 xO Uj
set_option maxHeartbeats 2000000 in
theorem Dv (h1:S ai=gn) (h2:S dn=MJ):qh gK gu S a0 xO (fun s z=> ∃r,Uj s z=some r) (fun s z s' y=> Uj s z=some (s',y)):=by
 rintro b s ⟨⟩ ⟨r,hr⟩
 have hr0:=hr
 obtain⟨⟨s',l'⟩,hl,hr⟩:=Option.map_eq_some_iff.1 hr
 simp only at hr
 subst hr
 obtain⟨c0,hc0⟩: ∃c,FT s=some c:=by
  rw[LR] at hl
  obtain⟨c,hc,_⟩:=Option.bind_eq_some_iff.1 hl
  exact⟨c,hc⟩
 simp[gK,gu,h1,jn,hc0, -Bool.forall_bool, -Bool.exists_bool]
 intro b2
 refine aY (X:=Nat×Rp×Value×List Rx×Int) [0,2] [2] (fun z=> LR z.1 z.2.1 z.2.2.2.1=some (s',l')/\z.2.2.2.1.length+z.1<=100/\FT z.2.1=some z.2.2.2.2) (fun z=> [(4, .own 36 z.2.2.1),(5, .v (.int .i32 z.2.2.2.2))]) (fun z=> [(0, .box b (nS z.2.1)),(36, .row z.2.2.1 aC 5 (z.2.2.2.1.map enc))]) (fun z=> z.1) (100,s, .slice none 0 0, [],c0) ⟨hl,by simp,hc0⟩ (by simp) (by simp[isNilRow]) ?_
 clear hl
 rintro⟨k,p,v,l,c⟩ ⟨hk,hlen,hc⟩
 simp only at hk hlen hc
 obtain _ | k:=k
 ·rw[LR] at hk;cases hk
 rw[LR,hc] at hk
 simp only[Option.bind_some] at hk
 split at hk
 ·rename_i hend
  cases hk
  have hlt: (l'.length:Int)<=9223372036854775807:=by omega
  by_cases hl1:l'.length=1
  ·obtain⟨e,rfl⟩: ∃e,l'= [e]:=List.length_eq_one_iff.1 hl1
   rcases hend with h | rfl | rfl
   ·have h': ¬0<=c:=by omega
    simp[h', -Bool.forall_bool, -Bool.exists_bool]
    exact xK s' (by simp) hr0
   all_goals
    simp[-Bool.forall_bool, -Bool.exists_bool]
    exact xK s' (by simp) hr0
  ·rw[KE hl1] at hr0
   have hl1': ¬ (l'.length:Int)=1:=by omega
   rcases hend with h | rfl | rfl
   ·have h': ¬0<=c:=by omega
    simp[h',hl1,hl1',hlt, -Bool.forall_bool, -Bool.exists_bool]
    exact Tz (el:=aC) s' (by simp) (by decide) (by simp) hr0
   all_goals
    simp[hl1,hl1',hlt, -Bool.forall_bool, -Bool.exists_bool]
    exact Tz (el:=aC) s' (by simp) (by decide) (by simp) hr0
 ·rename_i hgo
  obtain⟨q,hq,hk⟩:=Option.bind_eq_some_iff.1 hk
  split at hk
  ·cases hk
  rename_i hop
  have hok:=Yy hq
  obtain⟨p',e,ok⟩:=q
  simp only at hk hok hop
  subst hok
  have n1:0<=c:=by omega
  have n2:c≠124:=by omega
  have n3:c≠41:=by omega
  obtain⟨c1,hc1⟩: ∃c,FT p'=some c:=by
   obtain _ | k:=k
   ·rw[LR] at hk;cases hk
   rw[LR] at hk
   obtain⟨c,hc,_⟩:=Option.bind_eq_some_iff.1 hk
   exact⟨c,hc⟩
  simp[h1,h2,jn,hc1,hq,n1,n2,n3,hop, -Bool.forall_bool, -Bool.exists_bool]
  exact⟨by omega,by omega,fun v=> ⟨k,p',v,l++ [e],c1,⟨hk,by simp;omega,hc1⟩,⟨⟨rfl,rfl⟩, .inl ⟨rfl,rfl,rfl,rfl⟩, .inl ⟨rfl,by simp⟩⟩,by omega⟩⟩
theorem Zq {p:Rp} {q:Rp× (Rx×Bool)} (h:Uj p ()=some q):q.2.2=true:=by
 obtain⟨a,_,rfl⟩:=Option.map_eq_some_iff.1 h
 rfl
abbrev MI:Spc:=Rf a0 xO Vt
set_option maxHeartbeats 2000000 in
theorem F9 (h1:S ai=gn) (h2:S dq=MN):qh iq ig S a0 xO (fun s z=> ∃r,Vt s z=some r) (fun s z s' y=> Vt s z=some (s',y)):=by
 rintro b s ⟨⟩ ⟨r,hr⟩
 have hr0:=hr
 obtain⟨⟨s',l'⟩,hl,hr⟩:=Option.map_eq_some_iff.1 hr
 simp only at hr
 subst hr
 simp[iq,ig, -Bool.forall_bool, -Bool.exists_bool]
 intro b2
 refine aY (X:=Nat×Rp×Value×List Rx) [0,2] [2] (fun z=> Rz z.1 z.2.1 z.2.2.2=some (s',l')/\z.2.2.2.length+z.1<=100) (fun z=> [(4, .own 25 z.2.2.1)]) (fun z=> [(0, .box b (nS z.2.1)),(25, .row z.2.2.1 aC 5 (z.2.2.2.map enc))]) (fun z=> z.1) (100,s, .slice none 0 0, []) ⟨hl,by simp⟩ (by simp) (by simp[isNilRow]) ?_
 clear hl
 rintro⟨k,p,v,l⟩ ⟨hk,hlen⟩
 simp only at hk hlen
 obtain _ | k:=k
 ·rw[Rz] at hk;cases hk
 rw[Rz] at hk
 obtain⟨⟨p',e,ok⟩,hq,hk2⟩:=Option.bind_eq_some_iff.1 hk
 clear hk
 obtain⟨c,hc,hk3⟩:=Option.bind_eq_some_iff.1 hk2
 clear hk2
 have hok:=Zq hq
 simp only at hok hc hk3
 subst hok
 have hop: ¬e.op=3:=fun h=> by rw[if_pos h] at hk3;cases hk3
 rw[if_neg hop] at hk3
 have hcc:=Pc hc
 by_cases hc124:c=124
 ·rw[if_pos hc124] at hk3
  have hk:=hk3
  subst hc124
  have hin:=hcc.2.2 (by omega)
  simp[h1,h2,jn,hc,hq,hop,hin, -Bool.forall_bool, -Bool.exists_bool]
  exact⟨by omega,by omega,fun v=> ⟨k,p'.bump,v,l++ [e],⟨hk,by simp;omega⟩,⟨rfl, .inl ⟨rfl,rfl,rfl,rfl⟩, .inl ⟨rfl,by simp⟩⟩,by omega⟩⟩
 ·rw[if_neg hc124] at hk3
  cases hk3
  have hlt: ((l++ [e]).length:Int)<=9223372036854775807:=by simp;omega
  have hcc': ¬c=124:=hc124
  cases l with
  | nil=>
    simp[h1,h2,jn,hc,hq,hop,hcc', -Bool.forall_bool, -Bool.exists_bool]
    exact fun v=> xK s' (by simp) hr0
  | cons x l=>
    simp[h1,h2,jn,hc,hq,hop,hcc', -Bool.forall_bool, -Bool.exists_bool]
    have hr1:=hr0
    rw[KE (by simp)] at hr1
    exact⟨by simp at hlen;omega,by simp at hlen;omega,fun v _=> ⟨fun h=> absurd h (by omega),fun _=> Tz (el:=aC) (l:=x::l++ [e]) s' (by simp) (by decide) (by simp) hr1⟩⟩
end Go.Gv

namespace Go.Gv
open Go.Proofs
def fQ:CC:=oX [oA 5 0,oB 6 (.len (oT 5)),oA 4 6] [0,1,4] [] (.reg [oA 7 0,oA 8 4,oA 9 4,oB 10 (.conv .u64 (oT 9)),oZ 11 gU [oT 10],oA 12 1,oZ 13 bb [oT 7,oN 0,oT 8,oT 11,oT 12]])
def fK:List ar:= []
def q8:List Nat:= []
theorem qX:ay Tryz.prog ci q8 fQ fK 14:=ak mixed (by kernel_rfl)
def dB:CC:=oX [oB 10 (.mv (.const (.bool true)))] [0,1,2,3,4,10] [] (oX [oB 11 (.mv (.const (.bool true)))] [0,1,2,3,4,10,11] [] (.block 0 (.loop 1 (.block 1 (oX [oA 21 2,oA 22 1,oB 23 (.arith .sub (oT 21) (oT 22)),oA 12 23] [0,1,2,3,4,10,11,12] [] (.seq (oX [oA 24 12,oB 25 (.cmp .leq (oT 24) (oN 12))] [0,1,2,3,4,10,11,12,25] [] (.ite (oT 25) (oX [oA 26 0,
 oA 27 1,oA 28 2,oA 29 4,oZ 30 bu [oT 26,oT 27,oT 28,oT 29]] [] [] (.ret)) (.skip))) (.keep [0,1,2,3,4,10,11,12] [] (.seq (oX [oA 31 3,oB 32 (.eql false false [.int] (oT 31) (oN 0))] [0,1,2,3,4,10,11,12,32] [] (.ite (oT 32) (oX [oA 33 0,oA 34 1,oA 35 2,oA 36 4,oZ 37 mU [oT 33,oT 34,oT 35,oT 36]] [] [] (.ret)) (.skip)))
 (.keep [0,1,2,3,4,10,11,12] [] (.seq (oX [oA 38 10,oB 39 (.not (oT 38))] [0,1,2,3,4,10,11,12,39] [] (.ite (oT 39) (oX [oA 40 0,oA 41 1,oA 42 2,oA 43 4,oZ 44 jQ [oT 40,oT 41,oT 42,oT 43]] [0,1,2,3,4,10,11,12] [] (.reg [oA 45 3,oB 46 (.arith .sub (oT 45) (oN 1)),oA 3 46])) (.skip))) (.keep [0,1,2,3,4,10,11,12] [] (oX [oA 48 0,oA 49 1,oA 50 2,oA 51 4,
 oZ 52 lg [oT 48,oT 49,oT 50,oT 51],oA 47 52,oB 53 (.ext (oT 47) 0),oB 54 (.ext (oT 47) 1),oA 13 53,oA 14 54] [0,1,2,3,4,10,11,12,13,14] [] (.seq (oX [oA 55 14,oB 56 (.eql false false [.int] (oT 55) (oN 2))] [0,1,2,3,4,10,11,12,13,14,56] [] (.ite (oT 56) (oX [oA 57 0,oA 58 1,oA 59 2,oA 60 4,
 oZ 61 kI [oT 57,oT 58,oT 59,oT 60]] [0,1,2,3,4,10,11,12,13] [] (oX [oA 62 2,oB 63 (.arith .sub (oT 62) (oN 1)),oA 64 13,oA 65 1,oB 66 (.arith .sub (oT 64) (oT 65)),oB 67 (.arith .sub (oT 63) (oT 66)),oA 13 67] [0,1,2,3,4,10,11,12,13] [] (.reg [oB 14 (.mv (oN 1))]))) (.skip))) (.keep [0,1,2,3,4,10,11,12,13,14] [] (.seq (oX [oA 68 10,oA 69 68,
 oH 70 69 (.mv (oT 11)),oB 71 (.pick (oT 69) (oT 70) (.const ob)),oA 72 71,oH 73 72 (.mv (oT 14)),oH 74 72 (.eql false false [.int] (oT 73) (oN 1)),oB 75 (.pick (oT 72) (oT 74) (.const ob))] [0,1,2,3,4,10,11,12,13,75] [] (.ite (oT 75) (oX [oA 76 0,oA 77 1,oA 78 2,oA 79 4,
 oZ 80 gC [oT 76,oT 77,oT 78,oT 79]] [0,1,2,3,4,10,11,12,13,80] [] (.ite (oT 80) (.ret) (.skip))) (.skip))) (.keep [0,1,2,3,4,10,11,12,13] [] (.seq (.seq (.regd [oA 81 1,oB 82 (.cmp .gtr (oT 81) (oN 0)),oA 83 82,oH 84 83 (.mv (oT 4)),oH 85 83 (.mv (oT 0)),oH 86 83 (.mv (oT 1)),oH 87 83 (.arith .sub (oT 86) (oN 1)),oH 88 83 (.iaddr 2 (oT 85) (oT 87)),
 oH 89 83 (.load true 2 (oT 88)),oH 90 83 (.mv (oT 0)),oH 91 83 (.mv (oT 13)),oH 92 83 (.iaddr 2 (oT 90) (oT 91)),oH 93 83 (.load true 2 (oT 92))] [oH 94 83 (.callv (oT 84) [oT 89,oT 93]),oH 95 83 (.cmp .lss (oT 94) (oN 0)),oH 96 83 (.not (oT 95)),oB 97 (.pick (oT 83) (oT 96) (.const ob))]) (.keep [0,1,2,3,4,10,11,12,13,97] [] (.ite (oT 97) (oX [oA 98 0,oA 99 1,oA 100 2,oA 101 13,
 oA 102 4,oZ 103 jA [oT 98,oT 99,oT 100,oT 101,oT 102],oA 15 103] [0,2,3,4,10,11,15] [] (oX [oA 104 15,oA 1 104] [0,1,2,3,4,10,11] [] (.exit 1))) (.skip)))) (.keep [0,1,2,3,4,12,13] [] (oX [oA 106 0,oA 107 1,oA 108 2,oA 109 13,oA 110 4,oZ 111 mC [oT 106,oT 107,oT 108,oT 109,oT 110],oA 105 111,oB 112 (.ext (oT 105) 0),
 oB 113 (.ext (oT 105) 1),oA 16 112,oA 17 113] [0,1,2,3,4,12,16,17] [] (oX [oA 114 17,oA 11 114] [0,1,2,3,4,11,12,16] [] (oX [oA 115 16,oA 116 1,oB 117 (.arith .sub (oT 115) (oT 116)),oA 118 2,oA 119 16,oB 120 (.arith .sub (oT 118) (oT 119)),oA 18 117,oA 19 120] [0,1,2,3,4,11,12,16,18,19] [] (oX [oA 121 12,oB 122 (.arith .quo (oT 121) (oN 8)),
 oA 20 122] [0,1,2,3,4,11,16,18,19,20] [] (oX [oA 123 18,oA 124 19,oB 125 (.cmp .lss (oT 123) (oT 124))] [0,1,2,3,4,11,16,18,19,20,125] [] (.ite (oT 125) (oX [oA 126 18,oA 127 20,oB 128 (.cmp .geq (oT 126) (oT 127)),oA 10 128] [0,1,2,3,4,10,11,16] [] (oX [oA 129 0,oA 130 1,oA 131 16,oA 132 3,oA 133 4,
 oZ 134 bb [oT 129,oT 130,oT 131,oT 132,oT 133]] [0,2,3,4,10,11,16] [] (.reg [oA 135 16,oB 136 (.arith .add (oT 135) (oN 1)),oA 1 136]))) (oX [oA 137 19,oA 138 20,oB 139 (.cmp .geq (oT 137) (oT 138)),oA 10 139] [0,1,2,3,4,10,11,16] [] (oX [oA 140 0,oA 141 16,oB 142 (.arith .add (oT 141) (oN 1)),oA 143 2,oA 144 3,oA 145 4,
 oZ 146 bb [oT 140,oT 142,oT 143,oT 144,oT 145]] [0,1,3,4,10,11,16] [] (.reg [oA 147 16,oA 2 147])))))))))))))))))))))))))))
def dv:List ar:= []
def mS:List Nat:= []
theorem mP:ay Tryz.prog bb mS dB dv 148:=ak mixed (by kernel_rfl)
def cE:CC:=oX [oA 10 1,oB 11 (.arith .add (oT 10) (oN 1)),oA 8 11] [0,1,2,3,8] [] (.block 0 (.loop 1 (.seq (oX [oA 12 8,oA 13 2,oB 14 (.cmp .lss (oT 12) (oT 13))] [0,1,2,3,8,14] [] (.ite (oT 14) (.skip) (.exit 0))) (.keep [0,1,2,3,8] [] (.seq (.block 1 (oX [oA 17 8,oA 9 17] [0,1,2,3,8,9] [] (.block 2 (.loop 2 (.seq (.seq (.regd [oA 18 9,oA 19 1,
 oB 20 (.cmp .gtr (oT 18) (oT 19)),oA 21 20,oH 22 21 (.mv (oT 3)),oH 23 21 (.mv (oT 0)),oH 24 21 (.mv (oT 9)),oH 25 21 (.iaddr 2 (oT 23) (oT 24)),oH 26 21 (.load true 2 (oT 25)),oH 27 21 (.mv (oT 0)),oH 28 21 (.mv (oT 9)),oH 29 21 (.arith .sub (oT 28) (oN 1)),oH 30 21 (.iaddr 2 (oT 27) (oT 29)),oH 31 21 (.load true 2 (oT 30))] [oH 32 21 (.callv (oT 22) [oT 26,oT 31]),
 oH 33 21 (.cmp .lss (oT 32) (oN 0)),oB 34 (.pick (oT 21) (oT 33) (.const ob))]) (.keep [0,1,2,3,8,9,34] [] (.ite (oT 34) (.skip) (.exit 2)))) (.keep [0,1,2,3,8,9] [] (.seq (.block 3 (.regd [oA 37 0,oA 38 9,oA 39 0,oA 40 9,oB 41 (.arith .sub (oT 40) (oN 1)),oA 42 0,oA 43 9,oB 44 (.arith .sub (oT 43) (oN 1)),oB 45 (.iaddr 2 (oT 42) (oT 44)),oD 46 2 45,oA 47 0,oA 48 9,
 oB 49 (.iaddr 2 (oT 47) (oT 48)),oD 50 2 49,oB 51 (.iaddr 2 (oT 37) (oT 38)),oF 2 51 46] [oB 52 (.iaddr 2 (oT 39) (oT 41)),oF 2 52 50])) (.keep [0,1,2,3,8,9] [] (.reg [oA 35 9,oB 36 (.arith .sub (oT 35) (oN 1)),oA 9 36]))))))))) (.keep [0,1,2,3,8] [] (.reg [oA 15 8,oB 16 (.arith .add (oT 15) (oN 1)),oA 8 16])))))))
def cD:List ar:= []
def jz:List Nat:= []
theorem jy:ay Tryz.prog bu jz cE cD 53:=ak mixed (by kernel_rfl)
def mY:CC:=oX [oB 2 (.mv (oN 0))] [0] [] (.seq (.ite (.const ob) (oX [oA 3 0,oB 4 (.conv .u32 (oT 3)),oZ 5 zV [oT 4],oA 2 5] [2] [] (.ret)) (.skip)) (.keep [0] [] (oX [oA 6 0,oZ 7 fC [oT 6],oA 2 7] [2] [] (.ret))))
def mI:List ar:= [.tmp 2]
def Bg:List Nat:= []
theorem AX:ay Tryz.prog gU Bg mY mI 8:=ak mixed (by kernel_rfl)
def kQ:CC:=oX [oB 2 (.mv (oN 0))] [0,2] [] (.seq (oX [oA 3 0,oB 4 (.cmp .geq (oT 3) (.const (.int .u64 4294967296)))] [0,2,4] [] (.ite (oT 4) (oX [oA 5 0,oB 6 (.arith .shr (oT 5) (.const (.int .u64 32))),oA 0 6] [0] [] (.reg [oB 2 (.mv (oN 32))])) (.skip))) (.keep [0,2] [] (.seq (oX [oA 7 0,
 oB 8 (.cmp .geq (oT 7) (.const (.int .u64 65536)))] [0,2,8] [] (.ite (oT 8) (oX [oA 9 0,oB 10 (.arith .shr (oT 9) (.const (.int .u64 16))),oA 0 10] [0,2] [] (.reg [oA 11 2,oB 12 (.arith .add (oT 11) (oN 16)),oA 2 12])) (.skip))) (.keep [0,2] [] (.seq (oX [oA 13 0,oB 14 (.cmp .geq (oT 13) (.const (.int .u64 256)))] [0,2,14] [] (.ite (oT 14) (oX [oA 15 0,
 oB 16 (.arith .shr (oT 15) (.const (.int .u64 8))),oA 0 16] [0,2] [] (.reg [oA 17 2,oB 18 (.arith .add (oT 17) (oN 8)),oA 2 18])) (.skip))) (.keep [0,2] [] (oX [oA 19 2,oA 20 0,oB 21 (.conv .u8 (oT 20)),
 oB 22 (.sidx (oS ⟨#[0,1,2,2,3,3,3,3,4,4,4,4,4,4,4,4,5,5,5,5,5,5,5,5,5,5,5,5,5,5,5,5,6,6,6,6,6,6,6,6,6,6,6,6,6,6,6,6,6,6,6,6,6,6,6,6,6,6,6,6,6,6,6,6,7,7,7,7,7,7,7,7,7,7,7,7,7,7,7,7,7,7,7,7,7,7,7,7,7,7,7,7,7,7,7,7,7,7,7,7,7,7,7,7,7,7,7,7,7,7,7,7,7,7,7,7,7,7,7,7,7,7,7,7,7,7,7,7,8,8,8,8,8,8,8,8,8,8,8,8,8,8,8,8,8,8,8,8,8,8,8,8,8,8,8,8,8,8,8,8,8,8,8,8,8,8,8,8,8,8,8,8,8,8,8,8,8,8,8,8,8,8,8,8,8,8,8,8,8,8,8,8,8,8,8,8,8,8,8,8,8,8,8,8,8,8,8,8,8,8,8,8,8,8,8,8,8,8,8,8,8,8,8,8,8,8,8,8,8,8,8,8,8,8,8,8,8,8,8,8,8,8,8,8,8,8,8,8,8,8,8,8,8,8,8,8]⟩) (oT 21)),
 oB 23 (.conv .i64 (oT 22)),oB 24 (.arith .add (oT 19) (oT 23)),oA 2 24] [2] [] (.ret))))))))
def kD:List ar:= [.tmp 2]
def xx:List Nat:= []
theorem wZ:ay Tryz.prog fC xx kQ kD 25:=ak mixed (by kernel_rfl)
def jJ:CC:=oX [oB 4 (.mv (oN 0))] [0,1] [] (oX [oA 7 0,oZ 8 eM [oT 7],oA 5 8] [0,1,5] [] (oX [oA 9 1,oZ 10 eM [oT 9],oA 6 10] [0,1,5,6] [] (.seq (oX [oA 11 5] [0,1,6,11] [] (.ite (oT 11) (.seq (oX [oA 12 6] [12] [] (.ite (oT 12) (oX [oB 4 (.mv (oN 0))] [4] [] (.ret)) (.skip))) (.keep [] [] (oX [oB 4 (.mv (oN (-1)))] [4] [] (.ret))))
 (.skip))) (.keep [0,1,6] [] (.seq (oX [oA 13 6] [0,1,13] [] (.ite (oT 13) (oX [oB 4 (.mv (oN 1))] [4] [] (.ret)) (.skip))) (.keep [0,1] [] (.seq (oX [oA 14 0,oA 15 1,oB 16 (.cmp .lss (oT 14) (oT 15))] [0,1,16] [] (.ite (oT 16) (oX [oB 4 (.mv (oN (-1)))] [4] [] (.ret)) (.skip))) (.keep [0,1] [] (.seq (oX [oA 17 0,oA 18 1,oB 19 (.cmp .gtr (oT 17) (oT 18))] [19] [] (.ite (oT 19) (oX [
 oB 4 (.mv (oN 1))] [4] [] (.ret)) (.skip))) (.keep [] [] (oX [oB 4 (.mv (oN 0))] [4] [] (.ret))))))))))))
def jx:List ar:= [.tmp 4]
def vW:List Nat:= []
theorem vM:ay Tryz.prog eV vW jJ jx 20:=ak mixed (by kernel_rfl)
def mw:CC:=oX [oB 2 (.mv (.const ob))] [0] [] (oX [oA 3 0,oA 4 0,oB 5 (.eql true false [.int] (oT 3) (oT 4)),oA 2 5] [2] [] (.ret))
def lK:List ar:= [.tmp 2]
def zN:List Nat:= []
theorem zk:ay Tryz.prog eM zN mw lK 6:=ak mixed (by kernel_rfl)
def l4:CC:=oX [oB 2 (.box ee true (oT 0)),oB 3 (.box ee true (oT 1)),oB 4 (.mv (oN 0))] [2,3] [] (oX [oE 5 0 2,oC 6 1 5,oE 7 0 3,oC 8 1 7,oZ 9 eV [oT 6,oT 8],oA 4 9] [4] [] (.ret))
def lm:List ar:= [.tmp 4]
def zu:List Nat:= [2,3]
theorem yU:ay Tryz.prog bZ zu l4 lm 10:=ak mixed (by kernel_rfl)
def nT:CC:=oX [oB 2 (.mv (.const on))] [0] [0] (oX [oA 7 0,oZ 8 ci [oT 7,.func bZ]] [0] [0] (oX [oB 3 (.mv (.const on))] [0,3] [0,48] (.seq (oX [oA 9 0,oB 10 (.len (oT 9)),oB 11 (.mv (oN 0))] [3,9,10,11] [0,48] (aP 0 11 10 12 1 (oX [oB 13 (.iaddr 2 (oT 9) (oT 11)),oD 14 2 13,oB 5 (.alloc ee [.int .i32 0,.int .i32 0]),
 oF 2 5 14] [3,5,9,10,11] [0,5,48] (oX [oA 15 3,oB 16 (.len (oT 15)),oA 6 16] [3,5,6,9,10,11] [0,5,48] (.seq (.regd [oA 17 6,oB 18 (.cmp .gtr (oT 17) (oN 0)),oA 19 18,oH 20 19 (.faddr 0 (oT 5)),oH 21 19 (.load false 1 (oT 20)),oH 22 19 (.mv (oT 3)),oH 23 19 (.mv (oT 6)),oH 24 19 (.arith .sub (oT 23) (oN 1)),oH 25 19 (.iaddr 2 (oT 22) (oT 24)),oH 26 19 (.faddr 1 (oT 25)),
 oH 27 19 (.load false 1 (oT 26)),oH 28 19 (.arith .add (oT 27) (.const (.int .i32 1)))] [oH 29 19 (.cmp .leq (oT 21) (oT 28)),oB 30 (.pick (oT 19) (oT 29) (.const ob))]) (.keep [3,5,6,9,10,11,30] [0,5,48] (.ite (oT 30) (.regd [oA 31 3,oA 32 6,oB 33 (.arith .sub (oT 32) (oN 1)),oA 34 3,oA 35 6,oB 36 (.arith .sub (oT 35) (oN 1)),oB 37 (.iaddr 2 (oT 34) (oT 36)),oE 38 1 37,oC 39 1 38,
 oE 40 1 5,oC 41 1 40,oB 42 (.mm true [oT 39,oT 41])] [oB 43 (.iaddr 2 (oT 31) (oT 33)),oE 44 1 43,.op none none (.store (some 48) 1 (oT 44) (oT 42))]) (.reg [oA 45 3,oD 46 2 5,oB 47 (.bslice ee 2 [oT 46]),oB 48 (.append none ee 2 8 (oT 45) (oT 47)),oA 3 48])))))) 49)) (.keep [3] [48] (oX [oA 50 3,oA 2 50] [2] [48] (.ret))))))
def nK:List ar:= [.tmp 2]
def CQ:List Nat:= [2044048]
theorem CJ:ay Tryz.prog iN CQ nT nK 51:=ak mixed (by kernel_rfl)
end Go.Gv

namespace Go.Gv
open Cod (enc dec)
variable {S S0:Nat->Spc}
abbrev MY:Spc:=cC (a1 I32) (fun _=> True) (enc (X:=Bool)) fun _ y=> y=false
theorem Au:aV mw lK S (a1 I32) (fun _=> True) (enc (X:=Bool)) fun _ y=> y=false:=by
 rintro x -
 simp[mw,lK, -Bool.forall_bool]
def JI (a b:Int):Int:=if a < b then -1 else if b < a then 1 else 0
abbrev Na:Spc:=cC (a2 I32 I32) (fun _=> True) (enc (X:=Int)) fun x y=> y=JI x.1.val x.2.val
theorem wC (h1:S eM=MY):aV jJ jx S (a2 I32 I32) (fun _=> True) (enc (X:=Int)) fun x y=> y=JI x.1.val x.2.val:=by
 rintro⟨⟨x⟩,⟨y⟩⟩ -
 simp[jJ,jx,h1, -Bool.forall_bool, -Bool.exists_bool]
 refine⟨fun h=> by simp[JI,h],fun h=> ⟨fun h2=> ?_,fun h2=> ?_⟩⟩
 ·have h3: ¬x < y:=by omega
  simp[JI,h2,h3]
 ·have h3: ¬x < y:=by omega
  have h4: ¬y < x:=by omega
  simp[JI,h3,h4]
abbrev MZ:Spc:=cC (a2 Rng Rng) (fun _=> True) (enc (X:=Int)) fun x y=> y=JI x.1.fr.val x.2.fr.val
theorem Ap (h1:S eV=Na):aV l4 lm S (a2 Rng Rng) (fun _=> True) (enc (X:=Int)) fun x y=> y=JI x.1.fr.val x.2.fr.val:=by
 rintro⟨x,y⟩ -
 simp[l4,lm,h1, -Bool.forall_bool, -Bool.exists_bool]
abbrev IM:Spc:=cC (a1 U64) (fun x=> 0<=x.val/\x.val<=200) (enc (X:=Int)) fun _ _=> True
def UW (x:List Rng×Int×Int×D×Unit):Prop:=AD x.1=true/\x.2.1=0/\x.2.2.1=x.1.length/\x.2.2.2.1= .clo bZ []
abbrev M4:Spc:=cC (aE (List Rng) (aE Int (aE Int (aD a0)))) UW OS fun _ _=> True
theorem yF {l:List Rng} (h:AD l=true):1<=l.length/\l.length<=2:=by
 match l,h with
 | [x],_=> exact⟨Nat.le_refl 1,Nat.le_succ 1⟩
 | [x,y],_=> exact⟨Nat.le_succ 1,Nat.le_refl 2⟩
theorem Kk: ∀ {l:List Rng},AD l=true->1 < l.length-> ∃x y,l= [x,y]
 | [x,y],_,_=> ⟨x,y,rfl⟩
 | [x],_,h=> by simp at h
theorem RH: ∀ {l:List Rng} {x:Rng},l[0]?=some x->(l.take 1).foldl ov []= [x]
 | y::l,x,h=> by cases h;rfl
theorem F8 (h1:S bZ=MZ):aV cE cD S (aE (List Rng) (aE Int (aE Int (aD a0)))) UW OS fun _ _=> True:=by
 rintro⟨l,a,b,d,⟨⟩⟩ ⟨hs,ha,hb,hd⟩
 simp only at hs ha hb hd
 subst ha;subst hb;subst hd
 simp[cE,cD, -Bool.forall_bool, -Bool.exists_bool]
 have hl2:=yF hs
 refine⟨by simp only[InR];omega,?_⟩
 refine aY (X:=Nat) [0,1,2,3] [] (fun i=> 1<=i/\i<=l.length) (fun i=> [(8,enc (i:Int))]) (fun _=> []) (fun i=> l.length -i) 1 ⟨Nat.le_refl 1,hl2.1⟩ (by simp) (by simp) ?_
 rintro i ⟨hi1,hi2⟩
 by_cases hlt:i < l.length
 ·obtain rfl:i=1:=by omega
  obtain⟨x,y,rfl⟩:=Kk hs hlt
  simp[-Bool.forall_bool, -Bool.exists_bool]
  refine aY (X:=Unit) [0,1,2,3,8] [] (fun _=> True) (fun _=> [(9,enc (1:Int))]) (fun _=> []) (fun _=> 0) () trivial (by simp) (by simp) ?_
  rintro - -
  have hc: ¬JI y.fr.val x.fr.val < 0:=by
   simp[AD] at hs
   unfold JI
   rw[if_neg (by omega)]
   split <;> omega
  simp[h1,hc, -Bool.forall_bool, -Bool.exists_bool]
  exact⟨by simp only[InR];omega,fun _=> ⟨by simp only[InR];omega,2,⟨by omega,by omega⟩,rfl,rfl⟩⟩
 ·obtain rfl:i=l.length:=by omega
  simp[-Bool.forall_bool, -Bool.exists_bool]
  exact eR (Y:=Unit) () (.same _) trivial
abbrev MV:Spc:=cC (aE (List Rng) (aE Int (aE Int (aE Int (aD a0))))) (fun x=> UW (x.1,x.2.1,x.2.2.1,x.2.2.2.2)) OS fun _ _=> True
theorem F7 (h1:S bu=M4):aV dB dv S (aE (List Rng) (aE Int (aE Int (aE Int (aD a0))))) (fun x=> UW (x.1,x.2.1,x.2.2.1,x.2.2.2.2)) OS fun _ _=> True:=by
 rintro⟨l,a,b,lim,d,⟨⟩⟩ hp
 have hp':=hp
 obtain⟨hs,ha,hb,hd⟩:=hp
 simp only at hs ha hb hd hp'
 subst ha;subst hb;subst hd
 have hl2:=yF hs
 simp[dB,dv, -Bool.forall_bool, -Bool.exists_bool]
 refine aY (X:=Unit) [0,1,2,3,4,10,11] [] (fun _=> True) (fun _=> []) (fun _=> []) (fun _=> 0) () trivial (by simp) (by simp) ?_
 rintro - -
 have h12: (l.length:Int)<=12:=by omega
 have hin:InR .i64 (l.length:Int):=by simp only[InR];omega
 simp[h1,h12,hin,hp', -Bool.forall_bool, -Bool.exists_bool]
 exact eR (Y:=Unit) () (.same _) trivial
abbrev VB:Spc:=cC (aE (List Rng) (aD a0)) (fun x=> AD x.1=true/\x.2.1= .clo bZ []) OS fun _ _=> True
theorem rr (h1:S gU=IM) (h2:S bb=MV):aV fQ fK S (aE (List Rng) (aD a0)) (fun x=> AD x.1=true/\x.2.1= .clo bZ []) OS fun _ _=> True:=by
 rintro⟨l,d,⟨⟩⟩ ⟨hs,hd⟩
 simp only at hs hd
 subst hd
 have hl2:=yF hs
 have hp:UW (l,0,(l.length:Int), .clo bZ [],()):=⟨hs,rfl,rfl,rfl⟩
 have hw:IntKind.u64.wrap (l.length:Int)=l.length:=by rw[IntKind.wrap_u64];omega
 have h200: (l.length:Int)<=200:=by omega
 simp[fQ,fK,h1,h2,hp,hw,h200, -Bool.forall_bool, -Bool.exists_bool]
 exact fun _=> eR (Y:=Unit) () (.same _) trivial
abbrev Ee:Spc:=cC (a1 U64) (fun x=> 0<=x.val/\x.val<=200) (enc (X:=Int)) fun _ _=> True
theorem Mo (h1:S fC=Ee):aV mY mI S (a1 U64) (fun x=> 0<=x.val/\x.val<=200) (enc (X:=Int)) fun _ _=> True:=by
 rintro⟨x⟩ ⟨h0,h2⟩
 simp only at h0 h2
 simp[mY,mI,h1,h0,h2, -Bool.forall_bool, -Bool.exists_bool]
theorem Ig:aV kQ kD S (a1 U64) (fun x=> 0<=x.val/\x.val<=200) (enc (X:=Int)) fun _ _=> True:=by
 rintro⟨x⟩ ⟨h0,h2⟩
 simp only at h0 h2
 have c1: ¬4294967296<=x:=by omega
 have c2: ¬65536<=x:=by omega
 have c3: ¬256<=x:=by omega
 have hw:IntKind.u8.wrap x=x:=by rw[IntKind.wrap_u8];omega
 simp[kQ,kD,c1,c2,c3,hw,h0, -Bool.forall_bool, -Bool.exists_bool]
 refine⟨Int.lt_of_le_of_lt h2 (by decide),fun c _=> ?_⟩
 have:=c.toNat_lt
 have hw2:IntKind.i64.wrap (c.toNat:Int)=c.toNat:=by rw[IntKind.wrap_i64];omega
 rw[hw2]
 simp only[InR]
 omega
abbrev JR:Spc:=qfq (Y:=Rng) (aD a0) (fun x=> AD x.1=true/\x.2.1= .clo bZ []) OS (fun _ _=> True) ee 2
abbrev D2:Spc:=qiy (Y:=Rng) a0 (fun _ l=> AD l=true) (fun _ l r=> r=zm l) ee 2
set_option maxHeartbeats 1000000 in
theorem Dt (h1:S ci=JR):UH (Y:=Rng) nT nK S a0 (fun _ l=> AD l=true) (fun _ l r=> r=zm l) ee 2:=by
 rintro v l ⟨⟩ hs
 have hs:AD l=true:=hs
 have hl2:=yF hs
 simp[nT,nK,h1,hs, -Bool.forall_bool, -Bool.exists_bool]
 intro _
 refine aA (X:=Value×List Rng) [9] [0] l.length (fun k x=> x.2=(l.take k).foldl ov []) (fun x=> [(3, .own 48 x.1)]) (fun x=> [(48, .row x.1 ee 2 (x.2.map enc))]) (.slice none 0 0, []) (by simp) (by simp) (by omega) (by simp) (by simp) rfl (by simp) (by simp[isNilRow]) ?_ ?_
 ·rintro k ⟨v',out⟩ hk hP
  simp only at hP
  have hk2:k=0\/k=1:=by omega
  rcases hk2 with rfl | rfl
  ·obtain⟨x,hx⟩: ∃x,l[0]?=some x:=⟨_,List.getElem?_eq_getElem hk⟩
   obtain⟨_,hgx⟩:=List.getElem?_eq_some_iff.1 hx
   have ho:out= []:=by rw[hP];rfl
   subst ho
   have h1:=RH hx
   simp[hk,hx,hgx,h1, -Bool.forall_bool, -Bool.exists_bool]
  ·obtain⟨x,y,rfl⟩:=Kk hs hk
   have ho:out= [x]:=by rw[hP];rfl
   subst ho
   simp[AD] at hs
   by_cases hle:y.fr.val<=x.to.val+1
   ·have hst:ov (ov [] x) y= [⟨x.fr,⟨max x.to.val y.to.val⟩⟩]:=by simp[ov,hle]
    have hr:InR .i32 (x.to.val+1):=by simp only[InR];omega
    simp[hle,hst,hr, -Bool.forall_bool, -Bool.exists_bool]
    simp only[InR];omega
   ·have hst:ov (ov [] x) y= [x,y]:=by simp[ov,hle]
    have hr:InR .i32 (x.to.val+1):=by simp only[InR];omega
    simp[hle,hst,hr, -Bool.forall_bool, -Bool.exists_bool]
    simp only[InR];omega
 ·rintro⟨v',out⟩ hP
  simp only at hP
  rw[List.take_length] at hP
  subst hP
  simp[-Bool.forall_bool, -Bool.exists_bool]
  exact qG (zm l) (by simp[zm]) rfl
end Go.Gv

namespace Go.Gv
open Cod (enc dec)
variable {S S0:Nat->Spc}
theorem Ug {p:Rp} {sp:B} {q:Rp× (I32×Bool)} {c:Int} (hc:FT p=some c) (h:wo p sp=some q):q=(p.bump,⟨c⟩,true):=by
 unfold wo at h
 rw[hc,Option.bind_some] at h
 split at h
 ·cases h
 ·exact(Option.some.inj h).symm
theorem V9 {p:Rp} {q:Rp× (I32×Bool)} {c:Int} (hc:FT p=some c) (h:KO p ()=some q):q=(p.bump,⟨c⟩,true):=by
 unfold KO at h
 rw[hc,Option.bind_some] at h
 split at h
 ·cases h
 ·exact Ug hc h
theorem qbR {b:Nat} {post:Rp->(Rx×Bool)->Prop} {l:List Rng} {id el:Nat} {v:Value} {H:aa} (s:Rp) (h0:H 0=some (.box b (nS s))) (hi:id≠0) (h1:H id=some (.row v el 2 (l.map enc))) (hq:post s (⟨1,0,0,l, []⟩,true)):
 Ai xO b post (.tup [.agg [.v (.int .i64 1), .v (.int .i64 0), .v (.int .i64 0), .own id v, .v (.slice none 0 0)], .v (.bool true)]) H:=by
 refine zS s (⟨1,0,0,l, []⟩,true) (.tup rfl fun k c c' hc hc'=> ?_) h0 hq
 match k with
 | 0=>
   cases hc;cases hc'
   refine Js l [] (.row (el:=el) (by simp[hi];exact h1) rfl (fun d hd=> ?_) (fun k c c' hc hc'=> ?_)) (.nil _)
   ·obtain⟨x,_,rfl⟩:=List.mem_map.1 hd
    exact⟨Cod.kn x,Cod.wid x⟩
   ·rw[hc] at hc';cases hc';exact .same _
 | 1=> cases hc;cases hc';exact .same _
 | k+2=> simp at hc
set_option maxHeartbeats 2000000 in
theorem Gc (h1:S ai=gn) (h2:S cL=ML) (h3:S iN=D2):qh ir ij S a0 xO (fun s z=> ∃r,WM s z=some r) (fun s z s' y=> WM s z=some (s',y)):=by
 rintro b s ⟨⟩ ⟨r,hr⟩
 have hr0:=hr
 obtain⟨a0,ha0,h⟩:=Option.bind_eq_some_iff.1 hr
 have e91: ¬a0≠91:=fun e=> by rw[if_pos e] at h;cases h
 rw[if_neg e91] at h
 have hin:=(Pc ha0).2.2 (by omega)
 obtain⟨c0,hc0,h⟩:=Option.bind_eq_some_iff.1 h
 have n94: ¬c0=94:=fun e=> by rw[if_pos e] at h;cases h
 rw[if_neg n94] at h
 obtain⟨⟨s',l'⟩,hl,h⟩:=Option.bind_eq_some_iff.1 h
 simp only at h
 have hsrt:AD l'=true:=by
  split at h
  ·assumption
  ·cases h
 rw[if_pos hsrt] at h
 cases h
 have hc1:FT ⟨s.s,s.pos+1,s.fault,s.e⟩=some c0:=hc0
 simp[ir,ij,h1,jn,hin,hc1,n94, -Bool.forall_bool, -Bool.exists_bool]
 intro b2
 refine aY (X:=Nat×Rp×Value×List Rng) [0,2,4,5] [2] (fun z=> Uf z.1 z.2.1 z.2.2.2=some (s',l')/\z.2.2.2.length+z.1<=100) (fun z=> [(6, .own 86 z.2.2.1)]) (fun z=> [(0, .box b (nS z.2.1)),(86, .row z.2.2.1 ee 2 (z.2.2.2.map enc))]) (fun z=> z.1) (100,s.bump, .slice none 0 0, []) ⟨hl,by simp⟩ (by simp) (by simp[isNilRow,Rp.bump]) ?_
 clear hl
 rintro⟨k,p,v,l⟩ ⟨hk,hlen⟩
 simp only at hk hlen
 obtain _ | k:=k
 ·rw[Uf] at hk;cases hk
 rw[Uf] at hk
 obtain⟨c,hc,hk2⟩:=Option.bind_eq_some_iff.1 hk
 clear hk
 have hlt: (l.length:Int)<=9223372036854775807:=by omega
 by_cases hend:l≠ []/\c=93
 ·rw[if_pos hend] at hk2
  cases hk2
  obtain⟨hne,rfl⟩:=hend
  have hin2:=(Pc hc).2.2 (by omega)
  have hl0: ¬l'.length=0:=fun e=> hne (List.length_eq_zero_iff.1 e)
  simp(config:= { maxSteps:=2000000 }) [h1,h3,jn,hc,hlt,hne,hl0,hin2,hsrt, -Bool.forall_bool, -Bool.exists_bool]
  exact fun v'=> qbR (el:=ee) s'.bump (by simp[Rp.bump]) (by decide) (by simp) hr0
 ·rw[if_neg hend] at hk2
  obtain⟨q,hq,hk3⟩:=Option.bind_eq_some_iff.1 hk2
  clear hk2
  obtain⟨d,hd,hk4⟩:=Option.bind_eq_some_iff.1 hk3
  clear hk3
  have hqv:=V9 hc hq
  subst hqv
  simp only at hd hk4
  have n45: ¬d=45:=fun e=> by rw[if_pos e] at hk4;cases hk4
  rw[if_neg n45] at hk4
  have hd':FT ⟨p.s,p.pos+1,p.fault,p.e⟩=some d:=hd
  cases l with
  | nil=>
    simp(config:= { maxSteps:=2000000 }) [h1,h2,jn,hq,hd',n45,Rp.bump, -Bool.forall_bool, -Bool.exists_bool]
    exact fun v=> ⟨k,p.bump,v, [⟨⟨c⟩,⟨c⟩⟩],⟨hk4,by simp at hlen ⊢;omega⟩,⟨rfl, .inl ⟨rfl,rfl,rfl,rfl⟩, .inl ⟨rfl,by simp⟩⟩,by omega⟩
  | cons x l=>
    have n93: ¬c=93:=fun e=> hend ⟨by simp,e⟩
    simp(config:= { maxSteps:=2000000 }) [h1,h2,jn,hc,hq,hd',n45,n93,Rp.bump, -Bool.forall_bool, -Bool.exists_bool]
    have hlen2:l.length+1+ (k+1)<=100:=by simpa using hlen
    first
     | exact fun _ _=> ⟨by omega,by omega,fun v=> ⟨k,p.bump,v,x::l++ [⟨⟨c⟩,⟨c⟩⟩],⟨hk4,by simp;omega⟩,⟨rfl, .inl ⟨rfl,rfl,rfl,rfl⟩, .inl ⟨rfl,by simp⟩⟩,by omega⟩⟩
     | exact⟨by omega,by omega,by omega,fun v=> ⟨k,p.bump,v,x::l++ [⟨⟨c⟩,⟨c⟩⟩],⟨hk4,by simp;omega⟩,⟨rfl, .inl ⟨rfl,rfl,rfl,rfl⟩, .inl ⟨rfl,by simp⟩⟩,by omega⟩⟩
     | exact⟨by omega,by omega,fun v=> ⟨k,p.bump,v,x::l++ [⟨⟨c⟩,⟨c⟩⟩],⟨hk4,by simp;omega⟩,⟨rfl, .inl ⟨rfl,rfl,rfl,rfl⟩, .inl ⟨rfl,by simp⟩⟩,by omega⟩⟩
     | (refine fun _=> ⟨fun _=> ?_,fun _=> ?_⟩ <;> exact⟨by omega,by omega,fun v=> ⟨k,p.bump,v,x::l++ [⟨⟨c⟩,⟨c⟩⟩],⟨hk4,by simp;omega⟩,⟨rfl, .inl ⟨rfl,rfl,rfl,rfl⟩, .inl ⟨rfl,by simp⟩⟩,by omega⟩⟩)
end Go.Gv
